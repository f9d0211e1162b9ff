/- Texts of this claim, joined by a program: GCl, KeyB, KeyH, Sha11, PathA, PathB, PathC, Srt, Lin, See, DiskP, DiskQ, GDl, PathD, PathE, PathF, PathG, PathH, DiskL, DiskF, CacheP, CacheQ, CacheL, CacheF, CacheG. -/
import Derived.Test.YtlonpmajnglmoaaDoorJ4
import Derived.Lib.Replace
import Derived.Lib.Join
import Derived.Lib.SlicesCompact
import Derived.Sort.Walk0
import Derived.Lib.SplitLaws
import Derived.Lib.Strings
/- Printed by a program (wip/vg): what the functions mean, plainly, and their walks. -/
namespace Go.Proofs.YtlonpmajnglmoaaDoor
open Go Go.RowKit
attribute [local irreducible] WL WC WX WQ WK WJ Yld Eff Ef0 Fn
def M_smithylaw25_name (n : Int) (K : (List UInt8) → Prop) : Prop :=
 M_smithyworld_Number n (12 : Int) (fun (t4 : Int) =>
 M_smithyworld_Number n (12 : Int) (fun (t6 : Int) =>
 (In .i64 (t6 + (1 : Int))) ∧
 (0 ≤ t4 ∧ t4 ≤ t6 + (1 : Int) ∧ t6 + (1 : Int) ≤ ([97, 98, 99, 100, 101, 102, 103, 104, 105, 106, 107, 108] : List UInt8).length) ∧
 (([110] : List UInt8).length + ((([97, 98, 99, 100, 101, 102, 103, 104, 105, 106, 107, 108] : List UInt8).drop t4.toNat).take ((t6 + (1 : Int)).toNat - t4.toNat)).length ≤ 9223372036854775807) ∧
 K (([110] : List UInt8) ++ ((([97, 98, 99, 100, 101, 102, 103, 104, 105, 106, 107, 108] : List UInt8).drop t4.toNat).take ((t6 + (1 : Int)).toNat - t4.toNat)))))

def M_smithylaw25_first (K : Bool → Prop) : Prop :=
 M_disk_New [] (fun (t111 : Er) =>
 K false) (fun (t110_files : List (List UInt8 × List UInt8 × Bool × List UInt8 × Bool × List (Int × List UInt8))) (t110_ops : Int) (t110_left : Int) (t110_down : Bool) (t1112 : Er) =>
 ((¬ (t1112 = Er.ok) → K false) ∧
 (t1112 = Er.ok → M_cache_Open t110_files t110_ops t110_left t110_down ([106] : List UInt8) (fun (t221 : Er) (t110_ : List (List UInt8 × List UInt8 × Bool × List UInt8 × Bool × List (Int × List UInt8))) (t110_2 : Int) (t110_3 : Int) (t110_4 : Bool) =>
 K false) (fun (t220_p : List UInt8) (t220_l : List (List UInt8 × List UInt8)) (t2212 : Er) (t110_5 : List (List UInt8 × List UInt8 × Bool × List UInt8 × Bool × List (Int × List UInt8))) (t110_6 : Int) (t110_7 : Int) (t110_8 : Bool) =>
 ((¬ (t2212 = Er.ok) → K false) ∧
 (t2212 = Er.ok → M_key_Source ([97] : List UInt8) (fun (t32 : List UInt8) =>
 M_key_Source ([98] : List UInt8) (fun (t33 : List UInt8) =>
 M_pcache_Cache_Put t110_5 t110_6 t110_7 t110_8 t220_p t220_l t32 t33 (fun (a : Er) (t220_ : List UInt8) (t220_2 : List (List UInt8 × List UInt8)) (t110_9 : List (List UInt8 × List UInt8 × Bool × List UInt8 × Bool × List (Int × List UInt8))) (t110_10 : Int) (t110_11 : Int) (t110_12 : Bool) =>
 M_key_Source ([97] : List UInt8) (fun (t36 : List UInt8) =>
 M_key_Source ([98] : List UInt8) (fun (t37 : List UInt8) =>
 M_pcache_Cache_Put t110_9 t110_10 t110_11 t110_12 t220_ t220_2 t36 t37 (fun (b : Er) (t220_3 : List UInt8) (t220_4 : List (List UInt8 × List UInt8)) (t110_13 : List (List UInt8 × List UInt8 × Bool × List UInt8 × Bool × List (Int × List UInt8))) (t110_14 : Int) (t110_15 : Int) (t110_16 : Bool) =>
 M_pdisk_Disk_Read t110_13 t110_14 t110_15 t110_16 ([106] : List UInt8) (fun (t410 : List UInt8) (t411 : Bool) (t412 : Er) (t110_17 : List (List UInt8 × List UInt8 × Bool × List UInt8 × Bool × List (Int × List UInt8))) (t110_18 : Int) (t110_19 : Int) (t110_20 : Bool) =>
 ∃ J1 : Bool → Prop, ((((((((decide (a = Er.ok)) && (decide (b = Er.ok))) && t411) && (decide (t412 = Er.ok))) && (decide ((t410.length : Int) = (195 : Int)))) = true → M_pcache_Cache_Len t110_17 t110_18 t110_19 t110_20 t220_3 t220_4 (fun (t65 : Int) =>
 J1 (decide (t65 = (1 : Int))))) ∧
 ((((((decide (a = Er.ok)) && (decide (b = Er.ok))) && t411) && (decide (t412 = Er.ok))) && (decide ((t410.length : Int) = (195 : Int)))) = false → J1 false))) ∧
 (∀ q9 : Bool, J1 q9 → K q9))))))))))))))

def M_smithylaw25_CacheFalls (l : List Int) (synced : Int) (fall : Int) (keep : Int) (cut : Int) (K : Bool → Prop) : Prop :=
 (l.length ≤ maxLen →
 M_smithylaw25_first (fun (ok : Bool) =>
 (((!ok) = true → K false) ∧
 ((!ok) = false → ((((decide ((40 : Int) < (l.length : Int))) || (!ok)) = true → K ok) ∧
 (((decide ((40 : Int) < (l.length : Int))) || (!ok)) = false → M_disk_New [] (fun (t451 : Er) =>
 K false) (fun (t450_files : List (List UInt8 × List UInt8 × Bool × List UInt8 × Bool × List (Int × List UInt8))) (t450_ops : Int) (t450_left : Int) (t450_down : Bool) (t4512 : Er) =>
 ((¬ (t4512 = Er.ok) → K false) ∧
 (t4512 = Er.ok → M_cache_Open t450_files t450_ops t450_left t450_down ([106] : List UInt8) (fun (t561 : Er) (t450_ : List (List UInt8 × List UInt8 × Bool × List UInt8 × Bool × List (Int × List UInt8))) (t450_2 : Int) (t450_3 : Int) (t450_4 : Bool) =>
 K false) (fun (t560_p : List UInt8) (t560_l : List (List UInt8 × List UInt8)) (t5612 : Er) (t450_5 : List (List UInt8 × List UInt8 × Bool × List UInt8 × Bool × List (Int × List UInt8))) (t450_6 : Int) (t450_7 : Int) (t450_8 : Bool) =>
 ((¬ (t5612 = Er.ok) → K false) ∧
 (t5612 = Er.ok → M_smithyworld_Number synced (10 : Int) (fun (t66 : Int) =>
 (In .i64 (t66 + (1 : Int))) ∧
 M_smithyworld_Number fall (60 : Int) (fun (t70 : Int) =>
 (In .i64 (t70 + (1 : Int))) ∧
 M_pdisk_Disk_Arm t450_5 t450_6 t450_7 t450_8 (t70 + (1 : Int)) (fun (t450_9 : List (List UInt8 × List UInt8 × Bool × List UInt8 × Bool × List (Int × List UInt8))) (t450_10 : Int) (t450_11 : Int) (t450_12 : Bool) =>
 ∃ J1 : Int → Int → (List (List UInt8 × List UInt8 × Bool × List UInt8 × Bool × List (Int × List UInt8))) → Int → Int → Bool → Prop, (Lp9 (fun (safe2 : Int) (put2 : Int) (i3 : Int) (t5601 : List UInt8) (t5602 : List (List UInt8 × List UInt8)) (t45003 : List (List UInt8 × List UInt8 × Bool × List UInt8 × Bool × List (Int × List UInt8))) (t45013 : Int) (t45023 : Int) (t45033 : Bool) kont4 => ((i3 < (l.length : Int) → ∃ J7 : Int → (List (List UInt8 × List UInt8 × Bool × List UInt8 × Bool × List (Int × List UInt8))) → Int → Int → Bool → (List UInt8) → (List (List UInt8 × List UInt8)) → Prop, ((0 ≤ i3 ∧ i3 < (l.length : Nat)) ∧
 M_smithylaw25_name (l.getD i3.toNat 0) (fun (t84 : List UInt8) =>
 M_key_Source t84 (fun (t85 : List UInt8) =>
 M_smithylaw25_name i3 (fun (t87 : List UInt8) =>
 M_key_Source t87 (fun (t88 : List UInt8) =>
 M_pcache_Cache_Put t45003 t45013 t45023 t45033 t5601 t5602 t85 t88 (fun (t89 : Er) (t560_ : List UInt8) (t560_2 : List (List UInt8 × List UInt8)) (t450_41 : List (List UInt8 × List UInt8 × Bool × List UInt8 × Bool × List (Int × List UInt8))) (t450_42 : Int) (t450_43 : Int) (t450_44 : Bool) =>
 ((¬ (t89 = Er.ok) → J1 safe2 put2 t450_41 t450_42 t450_43 t450_44) ∧
 (t89 = Er.ok → (In .i64 (put2 + (1 : Int))) ∧
 (0 ≤ i3 ∧ 0 < t66 + (1 : Int)) ∧
 (((i3 % (t66 + (1 : Int))) = (0 : Int) → M_pcache_Cache_Sync t450_41 t450_42 t450_43 t450_44 t560_ t560_2 (fun (t98 : Er) (t560_3 : List UInt8) (t560_4 : List (List UInt8 × List UInt8)) (t450_45 : List (List UInt8 × List UInt8 × Bool × List UInt8 × Bool × List (Int × List UInt8))) (t450_46 : Int) (t450_47 : Int) (t450_48 : Bool) =>
 ((¬ (t98 = Er.ok) → J1 safe2 (put2 + (1 : Int)) t450_45 t450_46 t450_47 t450_48) ∧
 (t98 = Er.ok → J7 (put2 + (1 : Int)) t450_45 t450_46 t450_47 t450_48 t560_3 t560_4)))) ∧
 (¬ ((i3 % (t66 + (1 : Int))) = (0 : Int)) → J7 safe2 t450_41 t450_42 t450_43 t450_44 t560_ t560_2)))))))))) ∧
 (∀ safe3 : Int, ∀ t45004 : List (List UInt8 × List UInt8 × Bool × List UInt8 × Bool × List (Int × List UInt8)), ∀ t45014 : Int, ∀ t45024 : Int, ∀ t45034 : Bool, ∀ t56012 : List UInt8, ∀ t56022 : List (List UInt8 × List UInt8), J7 safe3 t45004 t45014 t45024 t45034 t56012 t56022 → (In .i64 (i3 + (1 : Int))) ∧
 kont4 safe3 (put2 + (1 : Int)) (i3 + (1 : Int)) t56012 t56022 t45004 t45014 t45024 t45034)) ∧
 (¬ (i3 < (l.length : Int)) → J1 safe2 put2 t45003 t45013 t45023 t45033))) (0 : Int) (0 : Int) (0 : Int) t560_p t560_l t450_9 t450_10 t450_11 t450_12) ∧
 (∀ safe : Int, ∀ put : Int, ∀ t4500 : List (List UInt8 × List UInt8 × Bool × List UInt8 × Bool × List (Int × List UInt8)), ∀ t4501 : Int, ∀ t4502 : Int, ∀ t4503 : Bool, J1 safe put t4500 t4501 t4502 t4503 → (In .i64 (put + (1 : Int))) ∧
 ∃ J2 : (List (List UInt8 × List UInt8 × Bool × List UInt8 × Bool × List (Int × List UInt8))) → Int → Int → Bool → Prop, (M_pdisk_Disk_Down t4500 t4501 t4502 t4503 (fun (t107 : Bool) =>
 (((!t107) = true → M_pdisk_Disk_Arm t4500 t4501 t4502 t4503 (1 : Int) (fun (t450_33 : List (List UInt8 × List UInt8 × Bool × List UInt8 × Bool × List (Int × List UInt8))) (t450_34 : Int) (t450_35 : Int) (t450_36 : Bool) =>
 M_pdisk_Disk_List t450_33 t450_34 t450_35 t450_36 (fun (t1120 : List (List UInt8)) (t1121 : Er) (t450_37 : List (List UInt8 × List UInt8 × Bool × List UInt8 × Bool × List (Int × List UInt8))) (t450_38 : Int) (t450_39 : Int) (t450_40 : Bool) =>
 J2 t450_37 t450_38 t450_39 t450_40))) ∧
 ((!t107) = false → J2 t4500 t4501 t4502 t4503)))) ∧
 (∀ t45002 : List (List UInt8 × List UInt8 × Bool × List UInt8 × Bool × List (Int × List UInt8)), ∀ t45012 : Int, ∀ t45022 : Int, ∀ t45032 : Bool, J2 t45002 t45012 t45022 t45032 → M_pdisk_Disk_Rise t45002 t45012 t45022 t45032 keep cut (fun (t450_13 : List (List UInt8 × List UInt8 × Bool × List UInt8 × Bool × List (Int × List UInt8))) (t450_14 : Int) (t450_15 : Int) (t450_16 : Bool) =>
 M_cache_Open t450_13 t450_14 t450_15 t450_16 ([106] : List UInt8) (fun (t1191 : Er) (t450_17 : List (List UInt8 × List UInt8 × Bool × List UInt8 × Bool × List (Int × List UInt8))) (t450_18 : Int) (t450_19 : Int) (t450_20 : Bool) =>
 K false) (fun (t1190_p : List UInt8) (t1190_l : List (List UInt8 × List UInt8)) (t11912 : Er) (t450_21 : List (List UInt8 × List UInt8 × Bool × List UInt8 × Bool × List (Int × List UInt8))) (t450_22 : Int) (t450_23 : Int) (t450_24 : Bool) =>
 ((¬ (t11912 = Er.ok) → K false) ∧
 (t11912 = Er.ok → Lp2 (fun (found : Bool) (n : Int) kont1 => ((((decide (n ≤ (if (l.length : Int) < (put + (1 : Int)) then (l.length : Int) else put + (1 : Int)))) && (!found)) = true → Lp3 (fun (keys : List (List UInt8)) (outs : List (List UInt8)) (i : Int) kont2 => ((i < n → ∃ J3 : (List (List UInt8)) → (List (List UInt8)) → Prop, ((0 ≤ i ∧ i < (l.length : Nat)) ∧
 M_smithylaw25_name (l.getD i.toNat 0) (fun (t148 : List UInt8) =>
 M_smithyref_AmongTexts keys t148 (fun (k : Int) =>
 ((k < (0 : Int) → (0 ≤ i ∧ i < (l.length : Nat)) ∧
 M_smithylaw25_name (l.getD i.toNat 0) (fun (t157 : List UInt8) =>
 ((keys.length + (([t157] : List (List UInt8))).length) * 16 ≤ 140737488355328) ∧
 M_smithylaw25_name i (fun (t162 : List UInt8) =>
 ((outs.length + (([t162] : List (List UInt8))).length) * 16 ≤ 140737488355328) ∧
 J3 (keys ++ ([t157] : List (List UInt8))) (outs ++ ([t162] : List (List UInt8)))))) ∧
 (¬ (k < (0 : Int)) → M_smithylaw25_name i (fun (t168 : List UInt8) =>
 (0 ≤ k ∧ k < (outs.length : Nat)) ∧
 J3 keys (outs.set k.toNat t168))))))) ∧
 (∀ keys2 : List (List UInt8), ∀ outs2 : List (List UInt8), J3 keys2 outs2 → (In .i64 (i + (1 : Int))) ∧
 kont2 keys2 outs2 (i + (1 : Int)))) ∧
 (¬ (i < n) → M_pcache_Cache_Len t450_21 t450_22 t450_23 t450_24 t1190_p t1190_l (fun (t171 : Int) =>
 Lp2 (fun (fits : Bool) (i2 : Int) kont3 => ((((decide (i2 < (keys.length : Int))) && fits) = true → (0 ≤ i2 ∧ i2 < (keys.length : Nat)) ∧
 M_key_Source (keys.getD i2.toNat []) (fun (t190 : List UInt8) =>
 M_pcache_Cache_Get t450_21 t450_22 t450_23 t450_24 t1190_p t1190_l t190 (fun (t1910 : List UInt8) (t1911 : Bool) =>
 ∃ J4 : Bool → Prop, (((t1911 = true → (0 ≤ i2 ∧ i2 < (outs.length : Nat)) ∧
 M_key_Source (outs.getD i2.toNat []) (fun (t201 : List UInt8) =>
 M_smithyref17_SameSum t1910 t201 (fun (t202 : Bool) =>
 J4 t202))) ∧
 (t1911 = false → J4 false))) ∧
 (∀ q10 : Bool, J4 q10 → (In .i64 (i2 + (1 : Int))) ∧
 kont3 q10 (i2 + (1 : Int)))))) ∧
 (((decide (i2 < (keys.length : Int))) && fits) = false → (In .i64 (n + (1 : Int))) ∧
 kont1 fits (n + (1 : Int))))) (decide (t171 = (keys.length : Int))) (0 : Int))))) [] [] (0 : Int)) ∧
 (((decide (n ≤ (if (l.length : Int) < (put + (1 : Int)) then (l.length : Int) else put + (1 : Int)))) && (!found)) = false → M_cache_Open t450_21 t450_22 t450_23 t450_24 ([106] : List UInt8) (fun (t2071 : Er) (t450_25 : List (List UInt8 × List UInt8 × Bool × List UInt8 × Bool × List (Int × List UInt8))) (t450_26 : Int) (t450_27 : Int) (t450_28 : Bool) =>
 ∃ J5 : Bool → Prop, (J5 false) ∧
 (∀ q13 : Bool, J5 q13 → K q13)) (fun (t2070_p : List UInt8) (t2070_l : List (List UInt8 × List UInt8)) (t20712 : Er) (t450_29 : List (List UInt8 × List UInt8 × Bool × List UInt8 × Bool × List (Int × List UInt8))) (t450_30 : Int) (t450_31 : Int) (t450_32 : Bool) =>
 ∃ J6 : Bool → Prop, ((((found && (decide (t20712 = Er.ok))) = true → M_pcache_Cache_Len t450_29 t450_30 t450_31 t450_32 t2070_p t2070_l (fun (t221 : Int) =>
 M_pcache_Cache_Len t450_29 t450_30 t450_31 t450_32 t1190_p t1190_l (fun (t223 : Int) =>
 J6 (decide (t221 = t223))))) ∧
 ((found && (decide (t20712 = Er.ok))) = false → J6 false))) ∧
 (∀ q16 : Bool, J6 q16 → K q16))))) false safe)))))))))))))))))))))

set_option maxHeartbeats 8000000 in
theorem W_smithylaw25_name {w : World} {n : Int} {K : (List UInt8) → Prop} (H : M_smithylaw25_name n K) : Fn Tryd.prog 40 ⟨[.int .i64 n]⟩ w (fun v w' => w = w' ∧ ∃ (r : List UInt8), v = vs r ∧ K r) := by
  unfold M_smithylaw25_name at H
  refine Fn.enter (by kernel_rfl) Tryd.func40 rfl Tryd.ntmps40 rfl ?_
  refine WC.seq ?_
  refine WC.region ?_
  refine WL.y rfl (Yld.pure tab_ok rfl) ?_
  refine WL.nil (WX.then_normal ?_)
  refine WC.seq ?_
  refine WC.region ?_
  refine WL.y rfl (Yld.pure tab_ok rfl) ?_
  refine WL.call rfl rfl (W_smithyworld_Number H) ?_
  rintro _ _ ⟨rfl, t4, rfl, H⟩
  refine WL.y rfl (Yld.pure tab_ok rfl) ?_
  refine WL.call rfl rfl (W_smithyworld_Number H) ?_
  rintro _ _ ⟨rfl, t6, rfl, H⟩
  obtain ⟨h1, H⟩ := H
  refine WL.y rfl (Yld.add rfl rfl h1) ?_
  obtain ⟨h2, H⟩ := H
  refine WL.y rfl (Yld.scut tab_ok rfl rfl rfl rfl h2.1 h2.2.1 h2.2.2) ?_
  obtain ⟨h3, H⟩ := H
  refine WL.y rfl (Yld.sadd rfl rfl h3) ?_
  refine WL.y rfl (Yld.pure tab_ok rfl) ?_
  refine WL.nil (WX.then_normal ?_)
  refine WC.ret ?_
  exact WX.ret1 rfl rfl ⟨rfl, ([110] : List UInt8) ++ ((([97, 98, 99, 100, 101, 102, 103, 104, 105, 106, 107, 108] : List UInt8).drop t4.toNat).take ((t6 + (1 : Int)).toNat - t4.toNat)), rfl, H⟩

set_option maxHeartbeats 8000000 in
theorem W_smithylaw25_first {S : List Nat} {w : World} {K : Bool → Prop} (hG : GOK S w) (hS9 : 9 ∈ S) (hS11 : 11 ∈ S) (hS12 : 12 ∈ S) (hS15 : 15 ∈ S) (hS100 : 100 ∈ S) (H : M_smithylaw25_first  K) : Fn Tryd.prog 35 ⟨[]⟩ w (fun v w' => w.grownBy w' none ∧ ∃ (r : Bool), v = .bool r ∧ K r) := by
  unfold M_smithylaw25_first at H
  refine Fn.enter (by kernel_rfl) Tryd.func35 rfl Tryd.ntmps35 rfl ?_
  refine WC.seq ?_
  refine WC.region ?_
  refine WL.y rfl (Yld.pure tab_ok rfl) ?_
  refine WL.nil (WX.then_normal ?_)
  refine WC.seq ?_
  refine WC.region ?_
  refine WL.call rfl rfl (W_disk_New hG hS9 hS11 hS100 (OwnK.nil enc43_ok w w.heap.size 43).rd rfl H) ?_
  rintro v_ w1 ⟨hg_, hc_ | hc_⟩
  · obtain ⟨v_t111, t111, rfl, ht111, H⟩ := hc_
    have hg1 := hg_
    have gr1 := hg1
    refine WL.y rfl (Yld.pure tab_ok rfl) ?_
    refine WL.y rfl (Yld.pure tab_ok rfl) ?_
    refine WL.y rfl (Yld.pure tab_ok rfl) ?_
    refine WL.y rfl (Yld.pure tab_ok rfl) ?_
    refine WL.y rfl (Yld.pure tab_ok rfl) ?_
    refine WL.nil (WX.then_normal ?_)
    refine WC.seq ?_
    refine WC.seq ?_
    refine WC.region ?_
    refine WL.y rfl (Yld.pure tab_ok rfl) ?_
    refine WL.y rfl (Yld.peqnil Tryd.underlying39 rfl rfl) ?_
    refine WL.y rfl (Yld.pure tab_ok rfl) ?_
    refine WL.midF 3 (fun L' w' => ∃ q1 : Bool, L' = [(19, .bool q1), (1, .pointer none)] ∧ true = q1 ∧ w1 = w') ?_ (fun hQ => ?_)
    · rintro _ _ ⟨q1, rfl, rfl, rfl⟩
      refine WL.nil (WX.then_normal ?_)
      refine WC.cond rfl (fun _ => ?_) (fun h => by cases h)
      refine WC.seq ?_
      refine WC.region ?_
      refine WL.y rfl (Yld.pure tab_ok rfl) ?_
      refine WL.nil (WX.then_normal ?_)
      refine WC.ret (WX.then_ret ?_)
      exact WX.ret1 rfl rfl ⟨gr1, false, rfl, H⟩
    · clear H
      refine WL.gno rfl rfl (rfl) rfl ?_
      refine WL.gno rfl rfl (rfl) rfl ?_
      refine WL.y rfl (Yld.pickT (rfl) rfl) ?_
      exact WL.weaken (by repeat (first | exact Sub.nil | refine Sub.cons rfl ?_)) (hQ _ _ ⟨true, rfl, rfl, rfl⟩)
  · obtain ⟨g_t110, g_t110_files, hs_t110_files, t110_files, t110_ops, t110_left, t110_down, v_t1112, t1112, rfl, ht1112, ht110_files, hge1, ht110, hge2, dj1, H⟩ := hc_
    have hg2 := hg_
    have gr2 := hg2
    refine WL.y rfl (Yld.pure tab_ok rfl) ?_
    refine WL.y rfl (Yld.pure tab_ok rfl) ?_
    refine WL.y rfl (Yld.pure tab_ok rfl) ?_
    refine WL.y rfl (Yld.pure tab_ok rfl) ?_
    refine WL.y rfl (Yld.pure tab_ok rfl) ?_
    refine WL.nil (WX.then_normal ?_)
    refine WC.seq ?_
    refine WC.seq ?_
    refine WC.region ?_
    refine WL.y rfl (Yld.pure tab_ok rfl) ?_
    refine WL.y rfl (Yld.peqnil Tryd.underlying39 rfl rfl) ?_
    refine WL.y rfl (Yld.pure tab_ok rfl) ?_
    refine WL.midF 3 (fun L' w' => ∃ q2 : Bool, L' = [(19, .bool q2), (1, .pointer (some ⟨g_t110, 0, none⟩))] ∧ (!decide (t1112 = Er.ok)) = q2 ∧ w1 = w') ?_ (fun hQ => ?_)
    · rintro _ _ ⟨q2, rfl, rfl, rfl⟩
      refine WL.nil (WX.then_normal ?_)
      refine WC.cond rfl (fun b1 => ?_) (fun b1 => ?_)
      · replace H := H.1 (nd_true b1)
        refine WC.seq ?_
        refine WC.region ?_
        refine WL.y rfl (Yld.pure tab_ok rfl) ?_
        refine WL.nil (WX.then_normal ?_)
        refine WC.ret (WX.then_ret ?_)
        exact WX.ret1 rfl rfl ⟨gr2, false, rfl, H⟩
      · replace H := H.2 (nd_false b1)
        refine WC.skip (WX.then_normal ?_)
        refine WC.seq ?_
        refine WC.region ?_
        refine WL.y rfl (Yld.pure tab_ok rfl) ?_
        refine WL.call rfl rfl (W_cache_Open (GB.grown hG gr2) (size_le gr2) (apC (Ge.le hge2 (Nat.le_refl _)) (fun p hp => Ge.le (hge1 p hp) (Nat.le_refl _))) hS9 hS11 hS12 hS15 hS100 ht110_files ht110 dj1 H) ?_
        rintro v_ w4 ⟨hg_, hc_ | hc_⟩
        · obtain ⟨v_t221, t221, hs_t110_, t110_, t110_2, t110_3, t110_4, rfl, ht221, hB1, hM1, hi1, dj2, H⟩ := hc_
          have hgl1 := hg_
          have gr3 := gr_modL gr2 hgl1 (apC (Ge.le hge2 (Nat.le_refl _)) (fun p hp => Ge.le (hge1 p hp) (Nat.le_refl _)))
          refine WL.y rfl (Yld.pure tab_ok rfl) ?_
          refine WL.y rfl (Yld.pure tab_ok rfl) ?_
          refine WL.y rfl (Yld.pure tab_ok rfl) ?_
          refine WL.y rfl (Yld.pure tab_ok rfl) ?_
          refine WL.y rfl (Yld.pure tab_ok rfl) ?_
          refine WL.nil (WX.then_normal ?_)
          refine WC.seq ?_
          refine WC.seq ?_
          refine WC.region ?_
          refine WL.y rfl (Yld.pure tab_ok rfl) ?_
          refine WL.y rfl (Yld.peqnil Tryd.underlying85 rfl rfl) ?_
          refine WL.y rfl (Yld.pure tab_ok rfl) ?_
          refine WL.midF 3 (fun L' w' => ∃ q3 : Bool, L' = [(30, .bool q3), (1, .pointer (some ⟨g_t110, 0, none⟩)), (3, .pointer none)] ∧ true = q3 ∧ w4 = w') ?_ (fun hQ => ?_)
          · rintro _ _ ⟨q3, rfl, rfl, rfl⟩
            refine WL.nil (WX.then_normal ?_)
            refine WC.cond rfl (fun _ => ?_) (fun h => by cases h)
            refine WC.seq ?_
            refine WC.region ?_
            refine WL.y rfl (Yld.pure tab_ok rfl) ?_
            refine WL.nil (WX.then_normal ?_)
            refine WC.ret (WX.then_ret ?_)
            exact WX.ret1 rfl rfl ⟨gr3, false, rfl, H⟩
          · clear H
            refine WL.gno rfl rfl (rfl) rfl ?_
            refine WL.gno rfl rfl (rfl) rfl ?_
            refine WL.y rfl (Yld.pickT (rfl) rfl) ?_
            exact WL.weaken (by repeat (first | exact Sub.nil | refine Sub.cons rfl ?_)) (hQ _ _ ⟨true, rfl, rfl, rfl⟩)
        · obtain ⟨g_t220, t220_p, g_t220_l, t220_l, v_t2212, t2212, hs_t110_2, t110_5, t110_6, t110_7, t110_8, rfl, ht2212, ht220_l, hge3, ht220, hge4, dj3, hB2, hM2, hi2, dj4, dj5, dj6, dj7, dj8, H⟩ := hc_
          have hgl2 := hg_
          have gr4 := gr_modL gr2 hgl2 (apC (Ge.le hge2 (Nat.le_refl _)) (fun p hp => Ge.le (hge1 p hp) (Nat.le_refl _)))
          refine WL.y rfl (Yld.pure tab_ok rfl) ?_
          refine WL.y rfl (Yld.pure tab_ok rfl) ?_
          refine WL.y rfl (Yld.pure tab_ok rfl) ?_
          refine WL.y rfl (Yld.pure tab_ok rfl) ?_
          refine WL.y rfl (Yld.pure tab_ok rfl) ?_
          refine WL.nil (WX.then_normal ?_)
          refine WC.seq ?_
          refine WC.seq ?_
          refine WC.region ?_
          refine WL.y rfl (Yld.pure tab_ok rfl) ?_
          refine WL.y rfl (Yld.peqnil Tryd.underlying85 rfl rfl) ?_
          refine WL.y rfl (Yld.pure tab_ok rfl) ?_
          refine WL.midF 3 (fun L' w' => ∃ q4 : Bool, L' = [(30, .bool q4), (1, .pointer (some ⟨g_t110, 0, none⟩)), (3, .pointer (some ⟨g_t220, 0, none⟩))] ∧ (!decide (t2212 = Er.ok)) = q4 ∧ w4 = w') ?_ (fun hQ => ?_)
          · rintro _ _ ⟨q4, rfl, rfl, rfl⟩
            refine WL.nil (WX.then_normal ?_)
            refine WC.cond rfl (fun b2 => ?_) (fun b2 => ?_)
            · replace H := H.1 (nd_true b2)
              refine WC.seq ?_
              refine WC.region ?_
              refine WL.y rfl (Yld.pure tab_ok rfl) ?_
              refine WL.nil (WX.then_normal ?_)
              refine WC.ret (WX.then_ret ?_)
              exact WX.ret1 rfl rfl ⟨gr4, false, rfl, H⟩
            · replace H := H.2 (nd_false b2)
              refine WC.skip (WX.then_normal ?_)
              refine WC.seq ?_
              refine WC.region ?_
              refine WL.y rfl (Yld.pure tab_ok rfl) ?_
              refine WL.call rfl rfl (W_key_Source H) ?_
              rintro _ w7 ⟨hg3, t32, rfl, H⟩
              have gr5 := gr_trans gr4 hg3
              have k1 := hM2.g0 hg3
              have k2 := hB2.g0 hg3
              have k3 := ht220_l.g0 hg3
              have k4 := ht220.g0 hg3
              refine WL.call rfl rfl (W_key_Source H) ?_
              rintro _ w8 ⟨hg4, t33, rfl, H⟩
              have gr6 := gr_trans gr5 hg4
              have k5 := k1.g0 hg4
              have k6 := k2.g0 hg4
              have k7 := k3.g0 hg4
              have k8 := k4.g0 hg4
              refine WL.call rfl rfl (W_pcache_Cache_Put (GB.grown hG gr6) (size_le gr6) (apC (Ge.le hge4 (size_le gr2)) (apC (Ge.le hge3 (size_le gr2)) (apC (Ge.le hge2 (Nat.le_refl _)) (InA.toGe hi2 (apC (Ge.le hge2 (Nat.le_refl _)) (fun p hp => Ge.le (hge1 p hp) (Nat.le_refl _))) (size_le gr2))))) hS9 hS11 hS15 hS100 k5 k6 k7 k8 dj3.symm dj7 dj8 dj5 dj6 dj4 H) ?_
              rintro v_a w9 ⟨hgl3, _, a, t220_, t220_2, hs_t110_3, t110_9, t110_10, t110_11, t110_12, rfl, ha, hB3, hM3, hB4, hM4, hi3, dj9, dj10, dj11, dj12, dj13, dj14, H⟩
              have gr7 := gr_modL gr6 hgl3 (apC (Ge.le hge4 (size_le gr2)) (apC (Ge.le hge3 (size_le gr2)) (apC (Ge.le hge2 (Nat.le_refl _)) (InA.toGe hi2 (apC (Ge.le hge2 (Nat.le_refl _)) (fun p hp => Ge.le (hge1 p hp) (Nat.le_refl _))) (size_le gr2)))))
              refine WL.y rfl (Yld.pure tab_ok rfl) ?_
              refine WL.nil (WX.then_normal ?_)
              refine WC.seq ?_
              refine WC.region ?_
              refine WL.y rfl (Yld.pure tab_ok rfl) ?_
              refine WL.call rfl rfl (W_key_Source H) ?_
              rintro _ w10 ⟨hg5, t36, rfl, H⟩
              have gr8 := gr_trans gr7 hg5
              have k9 := hM4.g0 hg5
              have k10 := hB4.g0 hg5
              have k11 := hM3.g0 hg5
              have k12 := hB3.g0 hg5
              have k13 := ha.grown hg5
              refine WL.call rfl rfl (W_key_Source H) ?_
              rintro _ w11 ⟨hg6, t37, rfl, H⟩
              have gr9 := gr_trans gr8 hg6
              have k14 := k9.g0 hg6
              have k15 := k10.g0 hg6
              have k16 := k11.g0 hg6
              have k17 := k12.g0 hg6
              have k18 := k13.grown hg6
              refine WL.call rfl rfl (W_pcache_Cache_Put (GB.grown hG gr9) (size_le gr9) (apC (Ge.le hge4 (size_le gr2)) (apC (Ge.le hge3 (size_le gr2)) (apC (Ge.le hge2 (Nat.le_refl _)) (InA.toGe hi3 (apC (Ge.le hge4 (size_le gr2)) (apC (Ge.le hge3 (size_le gr2)) (apC (Ge.le hge2 (Nat.le_refl _)) (InA.toGe hi2 (apC (Ge.le hge2 (Nat.le_refl _)) (fun p hp => Ge.le (hge1 p hp) (Nat.le_refl _))) (size_le gr2))))) (size_le gr6))))) hS9 hS11 hS15 hS100 k14 k15 k16 k17 dj9 dj10 dj11 dj12 dj13 dj14 H) ?_
              rintro v_b w12 ⟨hgl4, _, b, t220_3, t220_4, hs_t110_4, t110_13, t110_14, t110_15, t110_16, rfl, hb, hB5, hM5, hB6, hM6, hi4, dj15, dj16, dj17, dj18, dj19, dj20, H⟩
              have gr10 := gr_modL gr9 hgl4 (apC (Ge.le hge4 (size_le gr2)) (apC (Ge.le hge3 (size_le gr2)) (apC (Ge.le hge2 (Nat.le_refl _)) (InA.toGe hi3 (apC (Ge.le hge4 (size_le gr2)) (apC (Ge.le hge3 (size_le gr2)) (apC (Ge.le hge2 (Nat.le_refl _)) (InA.toGe hi2 (apC (Ge.le hge2 (Nat.le_refl _)) (fun p hp => Ge.le (hge1 p hp) (Nat.le_refl _))) (size_le gr2))))) (size_le gr6)))))
              have k19 := ErrR.goB k18 (GB.grown hG gr9) hgl4 (apC (Ge.le hge4 (size_le gr2)) (apC (Ge.le hge3 (size_le gr2)) (apC (Ge.le hge2 (Nat.le_refl _)) (InA.toGe hi3 (apC (Ge.le hge4 (size_le gr2)) (apC (Ge.le hge3 (size_le gr2)) (apC (Ge.le hge2 (Nat.le_refl _)) (InA.toGe hi2 (apC (Ge.le hge2 (Nat.le_refl _)) (fun p hp => Ge.le (hge1 p hp) (Nat.le_refl _))) (size_le gr2))))) (size_le gr6))))) (apC (NoAt.bl k17 rfl) (apC (NoAt.map k16) (apC (NoAt.bl k15 rfl) k14.noats)))
              refine WL.y rfl (Yld.pure tab_ok rfl) ?_
              refine WL.nil (WX.then_normal ?_)
              refine WC.seq ?_
              refine WC.region ?_
              refine WL.y rfl (Yld.pure tab_ok rfl) ?_
              refine WL.call rfl rfl (W_pdisk_Disk_Read (GB.grown hG gr10) (size_le gr10) (apC (Ge.le hge2 (Nat.le_refl _)) (InA.toGe hi4 (apC (Ge.le hge4 (size_le gr2)) (apC (Ge.le hge3 (size_le gr2)) (apC (Ge.le hge2 (Nat.le_refl _)) (InA.toGe hi3 (apC (Ge.le hge4 (size_le gr2)) (apC (Ge.le hge3 (size_le gr2)) (apC (Ge.le hge2 (Nat.le_refl _)) (InA.toGe hi2 (apC (Ge.le hge2 (Nat.le_refl _)) (fun p hp => Ge.le (hge1 p hp) (Nat.le_refl _))) (size_le gr2))))) (size_le gr6))))) (size_le gr9))) hS15 hM6 hB6 dj20 H) ?_
              rintro _ w13 ⟨hgl5, t410, t411, v_t412, t412, hs_t110_5, t110_17, t110_18, t110_19, t110_20, rfl, ht412, hB7, hM7, hi5, dj21, H⟩
              have gr11 := gr_modL gr10 hgl5 (apC (Ge.le hge2 (Nat.le_refl _)) (InA.toGe hi4 (apC (Ge.le hge4 (size_le gr2)) (apC (Ge.le hge3 (size_le gr2)) (apC (Ge.le hge2 (Nat.le_refl _)) (InA.toGe hi3 (apC (Ge.le hge4 (size_le gr2)) (apC (Ge.le hge3 (size_le gr2)) (apC (Ge.le hge2 (Nat.le_refl _)) (InA.toGe hi2 (apC (Ge.le hge2 (Nat.le_refl _)) (fun p hp => Ge.le (hge1 p hp) (Nat.le_refl _))) (size_le gr2))))) (size_le gr6))))) (size_le gr9)))
              have k20 := hM5.goL hgl5 (apC dj18 dj19)
              have k21 := hB5.goL hgl5 (apC dj16 dj17)
              have k22 := ErrR.goB k19 (GB.grown hG gr10) hgl5 (apC (Ge.le hge2 (Nat.le_refl _)) (InA.toGe hi4 (apC (Ge.le hge4 (size_le gr2)) (apC (Ge.le hge3 (size_le gr2)) (apC (Ge.le hge2 (Nat.le_refl _)) (InA.toGe hi3 (apC (Ge.le hge4 (size_le gr2)) (apC (Ge.le hge3 (size_le gr2)) (apC (Ge.le hge2 (Nat.le_refl _)) (InA.toGe hi2 (apC (Ge.le hge2 (Nat.le_refl _)) (fun p hp => Ge.le (hge1 p hp) (Nat.le_refl _))) (size_le gr2))))) (size_le gr6))))) (size_le gr9))) (apC (NoAt.bl hB6 rfl) hM6.noats)
              have k23 := ErrR.goB hb (GB.grown hG gr10) hgl5 (apC (Ge.le hge2 (Nat.le_refl _)) (InA.toGe hi4 (apC (Ge.le hge4 (size_le gr2)) (apC (Ge.le hge3 (size_le gr2)) (apC (Ge.le hge2 (Nat.le_refl _)) (InA.toGe hi3 (apC (Ge.le hge4 (size_le gr2)) (apC (Ge.le hge3 (size_le gr2)) (apC (Ge.le hge2 (Nat.le_refl _)) (InA.toGe hi2 (apC (Ge.le hge2 (Nat.le_refl _)) (fun p hp => Ge.le (hge1 p hp) (Nat.le_refl _))) (size_le gr2))))) (size_le gr6))))) (size_le gr9))) (apC (NoAt.bl hB6 rfl) hM6.noats)
              refine WL.y rfl (Yld.pure tab_ok rfl) ?_
              refine WL.y rfl (Yld.pure tab_ok rfl) ?_
              refine WL.y rfl (Yld.pure tab_ok rfl) ?_
              refine WL.y rfl (Yld.pure tab_ok rfl) ?_
              refine WL.y rfl (Yld.pure tab_ok rfl) ?_
              refine WL.y rfl (Yld.pure tab_ok rfl) ?_
              refine WL.y rfl (Yld.pure tab_ok rfl) ?_
              refine WL.nil (WX.then_normal ?_)
              refine WC.seq ?_
              refine WC.region ?_
              refine WL.y rfl (Yld.pure tab_ok rfl) ?_
              refine WL.y rfl (Yld.erreql Tryd.underlying29 k22 rfl) ?_
              refine WL.y rfl (Yld.pure tab_ok rfl) ?_
              refine WL.midF 3 (fun L' w' => ∃ q5 : Bool, L' = [(50, .bool q5), (3, .pointer (some ⟨g_t220, 0, none⟩)), (7, vs t410), (8, .bool t411), (9, v_t412)] ∧ ((decide (a = Er.ok)) && (decide (b = Er.ok))) = q5 ∧ w13 = w') ?_ (fun hQ => ?_)
              · rintro _ _ ⟨q5, rfl, rfl, rfl⟩
                refine WL.y rfl (Yld.pure tab_ok rfl) ?_
                refine WL.midF 2 (fun L' w' => ∃ q6 : Bool, L' = [(53, .bool q6), (3, .pointer (some ⟨g_t220, 0, none⟩)), (7, vs t410), (9, v_t412)] ∧ (((decide (a = Er.ok)) && (decide (b = Er.ok))) && t411) = q6 ∧ w13 = w') ?_ (fun hQ => ?_)
                · rintro _ _ ⟨q6, rfl, rfl, rfl⟩
                  refine WL.y rfl (Yld.pure tab_ok rfl) ?_
                  refine WL.midF 3 (fun L' w' => ∃ q7 : Bool, L' = [(57, .bool q7), (3, .pointer (some ⟨g_t220, 0, none⟩)), (7, vs t410)] ∧ ((((decide (a = Er.ok)) && (decide (b = Er.ok))) && t411) && (decide (t412 = Er.ok))) = q7 ∧ w13 = w') ?_ (fun hQ => ?_)
                  · rintro _ _ ⟨q7, rfl, rfl, rfl⟩
                    refine WL.y rfl (Yld.pure tab_ok rfl) ?_
                    refine WL.midF 4 (fun L' w' => ∃ q8 : Bool, L' = [(62, .bool q8), (3, .pointer (some ⟨g_t220, 0, none⟩))] ∧ (((((decide (a = Er.ok)) && (decide (b = Er.ok))) && t411) && (decide (t412 = Er.ok))) && (decide ((t410.length : Int) = (195 : Int)))) = q8 ∧ w13 = w') ?_ (fun hQ => ?_)
                    · rintro _ _ ⟨q8, rfl, rfl, rfl⟩
                      refine WL.y rfl (Yld.pure tab_ok rfl) ?_
                      obtain ⟨J1, H, hJ1⟩ := H
                      refine WL.midF 4 (fun L' w' => ∃ q9 : Bool, L' = [(67, .bool q9)] ∧ J1 q9 ∧ w13 = w') ?_ (fun hQ => ?_)
                      · clear H
                        rintro _ _ ⟨q9, rfl, H, rfl⟩
                        replace H := hJ1 q9 H
                        refine WL.y rfl (Yld.pure tab_ok rfl) ?_
                        refine WL.nil (WX.then_normal ?_)
                        refine WC.ret ?_
                        exact WX.ret1 rfl rfl ⟨gr11, q9, rfl, H⟩
                      · clear hJ1
                        rcases Bool.eq_false_or_eq_true (((((decide (a = Er.ok)) && (decide (b = Er.ok))) && t411) && (decide (t412 = Er.ok))) && (decide ((t410.length : Int) = (195 : Int)))) with b3 | b3
                        · replace H := H.1 b3
                          refine WL.gyes rfl rfl (okb b3) rfl (Yld.pure tab_ok rfl) ?_
                          refine WL.callw (wants_some rfl rfl (okb b3)) rfl rfl (W_pcache_Cache_Len hM7 hB7 k20 k21 H) ?_
                          rintro _ _ ⟨rfl, t65, rfl, H⟩
                          refine WL.gyes rfl rfl (okb b3) rfl (Yld.pure tab_ok rfl) ?_
                          refine WL.y rfl (Yld.pickT (okb b3) rfl) ?_
                          exact WL.weaken (by repeat (first | exact Sub.nil | refine Sub.cons rfl ?_)) (hQ _ _ ⟨decide (t65 = (1 : Int)), rfl, H, rfl⟩)
                        · replace H := H.2 b3
                          refine WL.gno rfl rfl (okb b3) rfl ?_
                          refine WL.gno rfl rfl (okb b3) rfl ?_
                          refine WL.gno rfl rfl (okb b3) rfl ?_
                          refine WL.y rfl (Yld.pickF (okb b3) rfl) ?_
                          exact WL.weaken (by repeat (first | exact Sub.nil | refine Sub.cons rfl ?_)) (hQ _ _ ⟨false, rfl, H, rfl⟩)
                    · clear H
                      rcases Bool.eq_false_or_eq_true ((((decide (a = Er.ok)) && (decide (b = Er.ok))) && t411) && (decide (t412 = Er.ok))) with b4 | b4
                      · refine WL.gyes rfl rfl (okb b4) rfl (Yld.pure tab_ok rfl) ?_
                        refine WL.gyes rfl rfl (okb b4) rfl (Yld.pure tab_ok rfl) ?_
                        refine WL.gyes rfl rfl (okb b4) rfl (Yld.pure tab_ok rfl) ?_
                        refine WL.y rfl (Yld.pickT (okb b4) rfl) ?_
                        exact WL.weaken (by repeat (first | exact Sub.nil | refine Sub.cons rfl ?_)) (hQ _ _ ⟨decide ((t410.length : Int) = (195 : Int)), rfl, by rw [b4] <;> rfl, rfl⟩)
                      · refine WL.gno rfl rfl (okb b4) rfl ?_
                        refine WL.gno rfl rfl (okb b4) rfl ?_
                        refine WL.gno rfl rfl (okb b4) rfl ?_
                        refine WL.y rfl (Yld.pickF (okb b4) rfl) ?_
                        exact WL.weaken (by repeat (first | exact Sub.nil | refine Sub.cons rfl ?_)) (hQ _ _ ⟨false, rfl, by rw [b4] <;> rfl, rfl⟩)
                  · clear H
                    rcases Bool.eq_false_or_eq_true (((decide (a = Er.ok)) && (decide (b = Er.ok))) && t411) with b5 | b5
                    · refine WL.gyes rfl rfl (okb b5) rfl (Yld.pure tab_ok rfl) ?_
                      refine WL.gyes rfl rfl (okb b5) rfl (Yld.erreql Tryd.underlying29 ht412 rfl) ?_
                      refine WL.y rfl (Yld.pickT (okb b5) rfl) ?_
                      exact WL.weaken (by repeat (first | exact Sub.nil | refine Sub.cons rfl ?_)) (hQ _ _ ⟨decide (t412 = Er.ok), rfl, by rw [b5] <;> rfl, rfl⟩)
                    · refine WL.gno rfl rfl (okb b5) rfl ?_
                      refine WL.gno rfl rfl (okb b5) rfl ?_
                      refine WL.y rfl (Yld.pickF (okb b5) rfl) ?_
                      exact WL.weaken (by repeat (first | exact Sub.nil | refine Sub.cons rfl ?_)) (hQ _ _ ⟨false, rfl, by rw [b5] <;> rfl, rfl⟩)
                · clear H
                  rcases Bool.eq_false_or_eq_true ((decide (a = Er.ok)) && (decide (b = Er.ok))) with b6 | b6
                  · refine WL.gyes rfl rfl (okb b6) rfl (Yld.pure tab_ok rfl) ?_
                    refine WL.y rfl (Yld.pickT (okb b6) rfl) ?_
                    exact WL.weaken (by repeat (first | exact Sub.nil | refine Sub.cons rfl ?_)) (hQ _ _ ⟨t411, rfl, by rw [b6] <;> rfl, rfl⟩)
                  · refine WL.gno rfl rfl (okb b6) rfl ?_
                    refine WL.y rfl (Yld.pickF (okb b6) rfl) ?_
                    exact WL.weaken (by repeat (first | exact Sub.nil | refine Sub.cons rfl ?_)) (hQ _ _ ⟨false, rfl, by rw [b6] <;> rfl, rfl⟩)
              · clear H
                rcases Bool.eq_false_or_eq_true (decide (a = Er.ok)) with b7 | b7
                · refine WL.gyes rfl rfl (okb b7) rfl (Yld.pure tab_ok rfl) ?_
                  refine WL.gyes rfl rfl (okb b7) rfl (Yld.erreql Tryd.underlying29 k23 rfl) ?_
                  refine WL.y rfl (Yld.pickT (okb b7) rfl) ?_
                  exact WL.weaken (by repeat (first | exact Sub.nil | refine Sub.cons rfl ?_)) (hQ _ _ ⟨decide (b = Er.ok), rfl, by rw [b7] <;> rfl, rfl⟩)
                · refine WL.gno rfl rfl (okb b7) rfl ?_
                  refine WL.gno rfl rfl (okb b7) rfl ?_
                  refine WL.y rfl (Yld.pickF (okb b7) rfl) ?_
                  exact WL.weaken (by repeat (first | exact Sub.nil | refine Sub.cons rfl ?_)) (hQ _ _ ⟨false, rfl, by rw [b7] <;> rfl, rfl⟩)
          · clear H
            refine WL.gyes rfl rfl (rfl) rfl (Yld.pure tab_ok rfl) ?_
            refine WL.gyes rfl rfl (rfl) rfl (Yld.errneq Tryd.underlying29 ht2212 rfl) ?_
            refine WL.y rfl (Yld.pickF (rfl) rfl) ?_
            exact WL.weaken (by repeat (first | exact Sub.nil | refine Sub.cons rfl ?_)) (hQ _ _ ⟨!decide (t2212 = Er.ok), rfl, rfl, rfl⟩)
    · clear H
      refine WL.gyes rfl rfl (rfl) rfl (Yld.pure tab_ok rfl) ?_
      refine WL.gyes rfl rfl (rfl) rfl (Yld.errneq Tryd.underlying29 ht1112 rfl) ?_
      refine WL.y rfl (Yld.pickF (rfl) rfl) ?_
      exact WL.weaken (by repeat (first | exact Sub.nil | refine Sub.cons rfl ?_)) (hQ _ _ ⟨!decide (t1112 = Er.ok), rfl, rfl, rfl⟩)

set_option maxHeartbeats 8000000 in
theorem W_smithylaw25_CacheFalls {S : List Nat} {w : World} {l : List Int} {A_l : Option Addr} {c_l : Nat} {synced : Int} {fall : Int} {keep : Int} {cut : Int} {n_l : Nat} {K : Bool → Prop} (hG : GOK S w) (hS9 : 9 ∈ S) (hS11 : 11 ∈ S) (hS12 : 12 ∈ S) (hS15 : 15 ∈ S) (hS100 : 100 ∈ S) (hl : Rd vi w A_l c_l l) (hn_l : n_l = l.length) (H : M_smithylaw25_CacheFalls l synced fall keep cut K) : Fn Tryd.prog 9 ⟨[.slice A_l n_l c_l, .int .i64 synced, .int .i64 fall, .int .i64 keep, .int .i64 cut]⟩ w (fun v w' => w.grownBy w' none ∧ ∃ (r : Bool), v = .bool r ∧ K r) := by
  subst hn_l
  unfold M_smithylaw25_CacheFalls at H
  refine Fn.enter (by kernel_rfl) Tryd.func9 rfl Tryd.ntmps9 rfl ?_
  replace H := H (Nat.le_trans hl.cap hl.max)
  refine WC.seq ?_
  refine WC.region ?_
  refine WL.y rfl (Yld.pure tab_ok rfl) ?_
  refine WL.nil (WX.then_normal ?_)
  refine WC.seq ?_
  refine WC.region ?_
  refine WL.call rfl rfl (W_smithylaw25_first hG hS9 hS11 hS12 hS15 hS100 H) ?_
  rintro _ w1 ⟨hg1, ok, rfl, H⟩
  have gr1 := hg1
  refine WL.y rfl (Yld.pure tab_ok rfl) ?_
  refine WL.nil (WX.then_normal ?_)
  refine WC.seq ?_
  refine WC.seq ?_
  refine WC.region ?_
  refine WL.y rfl (Yld.pure tab_ok rfl) ?_
  refine WL.y rfl (Yld.pure tab_ok rfl) ?_
  refine WL.nil (WX.then_normal ?_)
  refine WC.cond rfl (fun b1 => ?_) (fun b1 => ?_)
  · replace H := H.1 (b1)
    refine WC.seq ?_
    refine WC.region ?_
    refine WL.y rfl (Yld.pure tab_ok rfl) ?_
    refine WL.nil (WX.then_normal ?_)
    refine WC.ret (WX.then_ret ?_)
    exact WX.ret1 rfl rfl ⟨gr1, false, rfl, H⟩
  · replace H := H.2 (b1)
    refine WC.skip (WX.then_normal ?_)
    refine WC.seq ?_
    refine WC.seq ?_
    refine WC.region ?_
    refine WL.y rfl (Yld.pure tab_ok rfl) ?_
    refine WL.y rfl (Yld.pure tab_ok rfl) ?_
    refine WL.y rfl (Yld.pure tab_ok rfl) ?_
    refine WL.y rfl (Yld.pure tab_ok rfl) ?_
    refine WL.midF 3 (fun L' w' => ∃ q1 : Bool, L' = [(42, .bool q1), (0, .slice A_l l.length c_l), (1, .int .i64 synced), (2, .int .i64 fall), (3, .int .i64 keep), (4, .int .i64 cut), (11, .bool ok)] ∧ ((decide ((40 : Int) < (l.length : Int))) || (!ok)) = q1 ∧ w1 = w') ?_ (fun hQ => ?_)
    · rintro _ _ ⟨q1, rfl, rfl, rfl⟩
      refine WL.nil (WX.then_normal ?_)
      refine WC.cond rfl (fun b2 => ?_) (fun b2 => ?_)
      · replace H := H.1 (b2)
        refine WC.seq ?_
        refine WC.region ?_
        refine WL.y rfl (Yld.pure tab_ok rfl) ?_
        refine WL.y rfl (Yld.pure tab_ok rfl) ?_
        refine WL.nil (WX.then_normal ?_)
        refine WC.ret (WX.then_ret ?_)
        exact WX.ret1 rfl rfl ⟨gr1, ok, rfl, H⟩
      · replace H := H.2 (b2)
        refine WC.skip (WX.then_normal ?_)
        refine WC.seq ?_
        refine WC.region ?_
        refine WL.call rfl rfl (W_disk_New (hG.grown gr1) hS9 hS11 hS100 (OwnK.nil enc43_ok w1 w.heap.size 43).rd rfl H) ?_
        rintro v_ w2 ⟨hg_, hc_ | hc_⟩
        · obtain ⟨v_t451, t451, rfl, ht451, H⟩ := hc_
          have hg2 := hg_
          have gr2 := gr_trans gr1 hg2
          refine WL.y rfl (Yld.pure tab_ok rfl) ?_
          refine WL.y rfl (Yld.pure tab_ok rfl) ?_
          refine WL.y rfl (Yld.pure tab_ok rfl) ?_
          refine WL.y rfl (Yld.pure tab_ok rfl) ?_
          refine WL.y rfl (Yld.pure tab_ok rfl) ?_
          refine WL.nil (WX.then_normal ?_)
          refine WC.seq ?_
          refine WC.seq ?_
          refine WC.region ?_
          refine WL.y rfl (Yld.pure tab_ok rfl) ?_
          refine WL.y rfl (Yld.peqnil Tryd.underlying39 rfl rfl) ?_
          refine WL.y rfl (Yld.pure tab_ok rfl) ?_
          refine WL.midF 3 (fun L' w' => ∃ q2 : Bool, L' = [(53, .bool q2), (0, .slice A_l l.length c_l), (1, .int .i64 synced), (2, .int .i64 fall), (3, .int .i64 keep), (4, .int .i64 cut), (12, .pointer none)] ∧ true = q2 ∧ w2 = w') ?_ (fun hQ => ?_)
          · rintro _ _ ⟨q2, rfl, rfl, rfl⟩
            refine WL.nil (WX.then_normal ?_)
            refine WC.cond rfl (fun _ => ?_) (fun h => by cases h)
            refine WC.seq ?_
            refine WC.region ?_
            refine WL.y rfl (Yld.pure tab_ok rfl) ?_
            refine WL.nil (WX.then_normal ?_)
            refine WC.ret (WX.then_ret ?_)
            exact WX.ret1 rfl rfl ⟨gr2, false, rfl, H⟩
          · clear H
            refine WL.gno rfl rfl (rfl) rfl ?_
            refine WL.gno rfl rfl (rfl) rfl ?_
            refine WL.y rfl (Yld.pickT (rfl) rfl) ?_
            exact WL.weaken (by repeat (first | exact Sub.nil | refine Sub.cons rfl ?_)) (hQ _ _ ⟨true, rfl, rfl, rfl⟩)
        · obtain ⟨g_t450, g_t450_files, hs_t450_files, t450_files, t450_ops, t450_left, t450_down, v_t4512, t4512, rfl, ht4512, ht450_files, hge1, ht450, hge2, dj1, H⟩ := hc_
          have hg3 := hg_
          have gr3 := gr_trans gr1 hg3
          refine WL.y rfl (Yld.pure tab_ok rfl) ?_
          refine WL.y rfl (Yld.pure tab_ok rfl) ?_
          refine WL.y rfl (Yld.pure tab_ok rfl) ?_
          refine WL.y rfl (Yld.pure tab_ok rfl) ?_
          refine WL.y rfl (Yld.pure tab_ok rfl) ?_
          refine WL.nil (WX.then_normal ?_)
          refine WC.seq ?_
          refine WC.seq ?_
          refine WC.region ?_
          refine WL.y rfl (Yld.pure tab_ok rfl) ?_
          refine WL.y rfl (Yld.peqnil Tryd.underlying39 rfl rfl) ?_
          refine WL.y rfl (Yld.pure tab_ok rfl) ?_
          refine WL.midF 3 (fun L' w' => ∃ q3 : Bool, L' = [(53, .bool q3), (0, .slice A_l l.length c_l), (1, .int .i64 synced), (2, .int .i64 fall), (3, .int .i64 keep), (4, .int .i64 cut), (12, .pointer (some ⟨g_t450, 0, none⟩))] ∧ (!decide (t4512 = Er.ok)) = q3 ∧ w2 = w') ?_ (fun hQ => ?_)
          · rintro _ _ ⟨q3, rfl, rfl, rfl⟩
            refine WL.nil (WX.then_normal ?_)
            refine WC.cond rfl (fun b3 => ?_) (fun b3 => ?_)
            · replace H := H.1 (nd_true b3)
              refine WC.seq ?_
              refine WC.region ?_
              refine WL.y rfl (Yld.pure tab_ok rfl) ?_
              refine WL.nil (WX.then_normal ?_)
              refine WC.ret (WX.then_ret ?_)
              exact WX.ret1 rfl rfl ⟨gr3, false, rfl, H⟩
            · replace H := H.2 (nd_false b3)
              refine WC.skip (WX.then_normal ?_)
              refine WC.seq ?_
              refine WC.region ?_
              refine WL.y rfl (Yld.pure tab_ok rfl) ?_
              refine WL.call rfl rfl (W_cache_Open (GB.grown hG gr3) (size_le gr3) (apC (Ge.le hge2 (size_le gr1)) (fun p hp => Ge.le (hge1 p hp) (size_le gr1))) hS9 hS11 hS12 hS15 hS100 ht450_files ht450 dj1 H) ?_
              rintro v_ w5 ⟨hg_, hc_ | hc_⟩
              · obtain ⟨v_t561, t561, hs_t450_, t450_, t450_2, t450_3, t450_4, rfl, ht561, hB1, hM1, hi1, dj2, H⟩ := hc_
                have hgl1 := hg_
                have gr4 := gr_modL gr3 hgl1 (apC (Ge.le hge2 (size_le gr1)) (fun p hp => Ge.le (hge1 p hp) (size_le gr1)))
                refine WL.y rfl (Yld.pure tab_ok rfl) ?_
                refine WL.y rfl (Yld.pure tab_ok rfl) ?_
                refine WL.y rfl (Yld.pure tab_ok rfl) ?_
                refine WL.y rfl (Yld.pure tab_ok rfl) ?_
                refine WL.y rfl (Yld.pure tab_ok rfl) ?_
                refine WL.nil (WX.then_normal ?_)
                refine WC.seq ?_
                refine WC.seq ?_
                refine WC.region ?_
                refine WL.y rfl (Yld.pure tab_ok rfl) ?_
                refine WL.y rfl (Yld.peqnil Tryd.underlying85 rfl rfl) ?_
                refine WL.y rfl (Yld.pure tab_ok rfl) ?_
                refine WL.midF 3 (fun L' w' => ∃ q4 : Bool, L' = [(64, .bool q4), (0, .slice A_l l.length c_l), (1, .int .i64 synced), (2, .int .i64 fall), (3, .int .i64 keep), (4, .int .i64 cut), (12, .pointer (some ⟨g_t450, 0, none⟩)), (14, .pointer none)] ∧ true = q4 ∧ w5 = w') ?_ (fun hQ => ?_)
                · rintro _ _ ⟨q4, rfl, rfl, rfl⟩
                  refine WL.nil (WX.then_normal ?_)
                  refine WC.cond rfl (fun _ => ?_) (fun h => by cases h)
                  refine WC.seq ?_
                  refine WC.region ?_
                  refine WL.y rfl (Yld.pure tab_ok rfl) ?_
                  refine WL.nil (WX.then_normal ?_)
                  refine WC.ret (WX.then_ret ?_)
                  exact WX.ret1 rfl rfl ⟨gr4, false, rfl, H⟩
                · clear H
                  refine WL.gno rfl rfl (rfl) rfl ?_
                  refine WL.gno rfl rfl (rfl) rfl ?_
                  refine WL.y rfl (Yld.pickT (rfl) rfl) ?_
                  exact WL.weaken (by repeat (first | exact Sub.nil | refine Sub.cons rfl ?_)) (hQ _ _ ⟨true, rfl, rfl, rfl⟩)
              · obtain ⟨g_t560, t560_p, g_t560_l, t560_l, v_t5612, t5612, hs_t450_2, t450_5, t450_6, t450_7, t450_8, rfl, ht5612, ht560_l, hge3, ht560, hge4, dj3, hB2, hM2, hi2, dj4, dj5, dj6, dj7, dj8, H⟩ := hc_
                have hgl2 := hg_
                have gr5 := gr_modL gr3 hgl2 (apC (Ge.le hge2 (size_le gr1)) (fun p hp => Ge.le (hge1 p hp) (size_le gr1)))
                refine WL.y rfl (Yld.pure tab_ok rfl) ?_
                refine WL.y rfl (Yld.pure tab_ok rfl) ?_
                refine WL.y rfl (Yld.pure tab_ok rfl) ?_
                refine WL.y rfl (Yld.pure tab_ok rfl) ?_
                refine WL.y rfl (Yld.pure tab_ok rfl) ?_
                refine WL.nil (WX.then_normal ?_)
                refine WC.seq ?_
                refine WC.seq ?_
                refine WC.region ?_
                refine WL.y rfl (Yld.pure tab_ok rfl) ?_
                refine WL.y rfl (Yld.peqnil Tryd.underlying85 rfl rfl) ?_
                refine WL.y rfl (Yld.pure tab_ok rfl) ?_
                refine WL.midF 3 (fun L' w' => ∃ q5 : Bool, L' = [(64, .bool q5), (0, .slice A_l l.length c_l), (1, .int .i64 synced), (2, .int .i64 fall), (3, .int .i64 keep), (4, .int .i64 cut), (12, .pointer (some ⟨g_t450, 0, none⟩)), (14, .pointer (some ⟨g_t560, 0, none⟩))] ∧ (!decide (t5612 = Er.ok)) = q5 ∧ w5 = w') ?_ (fun hQ => ?_)
                · rintro _ _ ⟨q5, rfl, rfl, rfl⟩
                  refine WL.nil (WX.then_normal ?_)
                  refine WC.cond rfl (fun b4 => ?_) (fun b4 => ?_)
                  · replace H := H.1 (nd_true b4)
                    refine WC.seq ?_
                    refine WC.region ?_
                    refine WL.y rfl (Yld.pure tab_ok rfl) ?_
                    refine WL.nil (WX.then_normal ?_)
                    refine WC.ret (WX.then_ret ?_)
                    exact WX.ret1 rfl rfl ⟨gr5, false, rfl, H⟩
                  · replace H := H.2 (nd_false b4)
                    refine WC.skip (WX.then_normal ?_)
                    refine WC.seq ?_
                    refine WC.region ?_
                    refine WL.y rfl (Yld.pure tab_ok rfl) ?_
                    refine WL.nil (WX.then_normal ?_)
                    refine WC.seq ?_
                    refine WC.region ?_
                    refine WL.y rfl (Yld.pure tab_ok rfl) ?_
                    refine WL.call rfl rfl (W_smithyworld_Number H) ?_
                    rintro _ _ ⟨rfl, t66, rfl, H⟩
                    obtain ⟨h1, H⟩ := H
                    refine WL.y rfl (Yld.add rfl rfl h1) ?_
                    refine WL.y rfl (Yld.pure tab_ok rfl) ?_
                    refine WL.nil (WX.then_normal ?_)
                    refine WC.seq ?_
                    refine WC.region ?_
                    refine WL.y rfl (Yld.pure tab_ok rfl) ?_
                    refine WL.nil (WX.then_normal ?_)
                    refine WC.seq ?_
                    refine WC.region ?_
                    refine WL.y rfl (Yld.pure tab_ok rfl) ?_
                    refine WL.y rfl (Yld.pure tab_ok rfl) ?_
                    refine WL.call rfl rfl (W_smithyworld_Number H) ?_
                    rintro _ _ ⟨rfl, t70, rfl, H⟩
                    obtain ⟨h2, H⟩ := H
                    refine WL.y rfl (Yld.add rfl rfl h2) ?_
                    refine WL.call rfl rfl (W_pdisk_Disk_Arm hM2 hB2 dj4 H) ?_
                    rintro _ w8 ⟨hgl3, hs_t450_3, t450_9, t450_10, t450_11, t450_12, rfl, hB3, hM3, hi3, dj9, H⟩
                    have gr6 := gr_modL gr5 hgl3 (apC (Ge.le hge2 (size_le gr1)) (InA.toGe hi2 (apC (Ge.le hge2 (size_le gr1)) (fun p hp => Ge.le (hge1 p hp) (size_le gr1))) (size_le gr3)))
                    have k1 := ht560_l.goL hgl3 (apC dj5 dj6)
                    have k2 := ht560.goL hgl3 (apC dj7 dj8)
                    refine WL.nil (WX.then_normal ?_)
                    refine WC.seq ?_
                    obtain ⟨J1, H, hJ1⟩ := H
                    refine WC.midF (fun L' w' => ∃ (safe : Int), ∃ (put : Int), ∃ (t4500 : List (List UInt8 × List UInt8 × Bool × List UInt8 × Bool × List (Int × List UInt8))), ∃ (hs_t4500 : List (List UInt8 × PH)), ∃ (t4501 : Int), ∃ (t4502 : Int), ∃ (t4503 : Bool), L' = [(0, .slice A_l l.length c_l), (3, .int .i64 keep), (4, .int .i64 cut), (12, .pointer (some ⟨g_t450, 0, none⟩)), (16, .int .i64 safe), (17, .int .i64 put)] ∧ J1 safe put t4500 t4501 t4502 t4503 ∧ w.grownBy w' none ∧ Bl w' g_t450 124 [.map (some g_t450_files), .int .i64 t4501, .int .i64 t4502, .bool t4503] ∧ PoolO pe128 w' g_t450_files hs_t4500 t4500 none ∧ AllP (Dj (some g_t450)) (FP g_t450_files hs_t4500 none) ∧ AllP (fun p => Ge p w.heap.size) (FP g_t450_files hs_t4500 none)) ?_ (fun hQ => ?_)
                    · clear H
                      rintro _ w9 ⟨safe, put, t4500, hs_t4500, t4501, t4502, t4503, rfl, H, gr7, k3, k4, dj10, hi4⟩
                      replace H := hJ1 safe put t4500 t4501 t4502 t4503 H
                      refine WX.then_normal ?_
                      refine WC.seq ?_
                      refine WC.region ?_
                      refine WL.y rfl (Yld.pure tab_ok rfl) ?_
                      obtain ⟨h3, H⟩ := H
                      refine WL.y rfl (Yld.add rfl rfl h3) ?_
                      refine WL.y rfl (Yld.pure tab_ok rfl) ?_
                      refine WL.y rfl (Yld.pure tab_ok rfl) ?_
                      refine WL.y rfl (Yld.min2 rfl rfl) ?_
                      refine WL.y rfl (Yld.pure tab_ok rfl) ?_
                      refine WL.nil (WX.then_normal ?_)
                      refine WC.seq ?_
                      obtain ⟨J2, H, hJ2⟩ := H
                      refine WC.midF (fun L' w' => ∃ (t45002 : List (List UInt8 × List UInt8 × Bool × List UInt8 × Bool × List (Int × List UInt8))), ∃ (hs_t45002 : List (List UInt8 × PH)), ∃ (t45012 : Int), ∃ (t45022 : Int), ∃ (t45032 : Bool), L' = [(0, .slice A_l l.length c_l), (3, .int .i64 keep), (4, .int .i64 cut), (12, .pointer (some ⟨g_t450, 0, none⟩)), (16, .int .i64 safe), (17, .int .i64 (if (l.length : Int) < (put + (1 : Int)) then (l.length : Int) else put + (1 : Int)))] ∧ J2 t45002 t45012 t45022 t45032 ∧ w.grownBy w' none ∧ Bl w' g_t450 124 [.map (some g_t450_files), .int .i64 t45012, .int .i64 t45022, .bool t45032] ∧ PoolO pe128 w' g_t450_files hs_t45002 t45002 none ∧ AllP (Dj (some g_t450)) (FP g_t450_files hs_t45002 none) ∧ AllP (fun p => Ge p w.heap.size) (FP g_t450_files hs_t45002 none)) ?_ (fun hQ => ?_)
                      · clear H
                        rintro _ w10 ⟨t45002, hs_t45002, t45012, t45022, t45032, rfl, H, gr8, k5, k6, dj11, hi5⟩
                        replace H := hJ2 t45002 t45012 t45022 t45032 H
                        refine WX.then_normal ?_
                        refine WC.seq ?_
                        refine WC.region ?_
                        refine WL.y rfl (Yld.pure tab_ok rfl) ?_
                        refine WL.y rfl (Yld.pure tab_ok rfl) ?_
                        refine WL.y rfl (Yld.pure tab_ok rfl) ?_
                        refine WL.call rfl rfl (W_pdisk_Disk_Rise k6 k5 dj11 H) ?_
                        rintro _ w11 ⟨hgl4, hs_t450_4, t450_13, t450_14, t450_15, t450_16, rfl, hB4, hM4, hi6, dj12, H⟩
                        have gr9 := gr_modL gr8 hgl4 (apC (Ge.le hge2 (size_le gr1)) hi5)
                        refine WL.nil (WX.then_normal ?_)
                        refine WC.seq ?_
                        refine WC.region ?_
                        refine WL.y rfl (Yld.pure tab_ok rfl) ?_
                        refine WL.call rfl rfl (W_cache_Open (GB.grown hG gr9) (size_le gr9) (apC (Ge.le hge2 (size_le gr1)) (InA.toGe hi6 (apC (Ge.le hge2 (size_le gr1)) hi5) (size_le gr8))) hS9 hS11 hS12 hS15 hS100 hM4 hB4 dj12 H) ?_
                        rintro v_ w12 ⟨hg_, hc_ | hc_⟩
                        · obtain ⟨v_t1191, t1191, hs_t450_5, t450_17, t450_18, t450_19, t450_20, rfl, ht1191, hB5, hM5, hi7, dj13, H⟩ := hc_
                          have hgl5 := hg_
                          have gr10 := gr_modL gr9 hgl5 (apC (Ge.le hge2 (size_le gr1)) (InA.toGe hi6 (apC (Ge.le hge2 (size_le gr1)) hi5) (size_le gr8)))
                          refine WL.y rfl (Yld.pure tab_ok rfl) ?_
                          refine WL.y rfl (Yld.pure tab_ok rfl) ?_
                          refine WL.y rfl (Yld.pure tab_ok rfl) ?_
                          refine WL.y rfl (Yld.pure tab_ok rfl) ?_
                          refine WL.y rfl (Yld.pure tab_ok rfl) ?_
                          refine WL.nil (WX.then_normal ?_)
                          refine WC.seq ?_
                          refine WC.seq ?_
                          refine WC.region ?_
                          refine WL.y rfl (Yld.pure tab_ok rfl) ?_
                          refine WL.y rfl (Yld.peqnil Tryd.underlying85 rfl rfl) ?_
                          refine WL.y rfl (Yld.pure tab_ok rfl) ?_
                          refine WL.midF 3 (fun L' w' => ∃ q6 : Bool, L' = [(127, .bool q6), (0, .slice A_l l.length c_l), (12, .pointer (some ⟨g_t450, 0, none⟩)), (16, .int .i64 safe), (17, .int .i64 (if (l.length : Int) < (put + (1 : Int)) then (l.length : Int) else put + (1 : Int))), (19, .pointer none)] ∧ true = q6 ∧ w12 = w') ?_ (fun hQ => ?_)
                          · rintro _ _ ⟨q6, rfl, rfl, rfl⟩
                            refine WL.nil (WX.then_normal ?_)
                            refine WC.cond rfl (fun _ => ?_) (fun h => by cases h)
                            refine WC.seq ?_
                            refine WC.region ?_
                            refine WL.y rfl (Yld.pure tab_ok rfl) ?_
                            refine WL.nil (WX.then_normal ?_)
                            refine WC.ret (WX.then_ret ?_)
                            exact WX.ret1 rfl rfl ⟨gr10, false, rfl, H⟩
                          · clear H
                            refine WL.gno rfl rfl (rfl) rfl ?_
                            refine WL.gno rfl rfl (rfl) rfl ?_
                            refine WL.y rfl (Yld.pickT (rfl) rfl) ?_
                            exact WL.weaken (by repeat (first | exact Sub.nil | refine Sub.cons rfl ?_)) (hQ _ _ ⟨true, rfl, rfl, rfl⟩)
                        · obtain ⟨g_t1190, t1190_p, g_t1190_l, t1190_l, v_t11912, t11912, hs_t450_6, t450_21, t450_22, t450_23, t450_24, rfl, ht11912, ht1190_l, hge5, ht1190, hge6, dj14, hB6, hM6, hi8, dj15, dj16, dj17, dj18, dj19, H⟩ := hc_
                          have hgl6 := hg_
                          have gr11 := gr_modL gr9 hgl6 (apC (Ge.le hge2 (size_le gr1)) (InA.toGe hi6 (apC (Ge.le hge2 (size_le gr1)) hi5) (size_le gr8)))
                          refine WL.y rfl (Yld.pure tab_ok rfl) ?_
                          refine WL.y rfl (Yld.pure tab_ok rfl) ?_
                          refine WL.y rfl (Yld.pure tab_ok rfl) ?_
                          refine WL.y rfl (Yld.pure tab_ok rfl) ?_
                          refine WL.y rfl (Yld.pure tab_ok rfl) ?_
                          refine WL.nil (WX.then_normal ?_)
                          refine WC.seq ?_
                          refine WC.seq ?_
                          refine WC.region ?_
                          refine WL.y rfl (Yld.pure tab_ok rfl) ?_
                          refine WL.y rfl (Yld.peqnil Tryd.underlying85 rfl rfl) ?_
                          refine WL.y rfl (Yld.pure tab_ok rfl) ?_
                          refine WL.midF 3 (fun L' w' => ∃ q7 : Bool, L' = [(127, .bool q7), (0, .slice A_l l.length c_l), (12, .pointer (some ⟨g_t450, 0, none⟩)), (16, .int .i64 safe), (17, .int .i64 (if (l.length : Int) < (put + (1 : Int)) then (l.length : Int) else put + (1 : Int))), (19, .pointer (some ⟨g_t1190, 0, none⟩))] ∧ (!decide (t11912 = Er.ok)) = q7 ∧ w12 = w') ?_ (fun hQ => ?_)
                          · rintro _ _ ⟨q7, rfl, rfl, rfl⟩
                            refine WL.nil (WX.then_normal ?_)
                            refine WC.cond rfl (fun b5 => ?_) (fun b5 => ?_)
                            · replace H := H.1 (nd_true b5)
                              refine WC.seq ?_
                              refine WC.region ?_
                              refine WL.y rfl (Yld.pure tab_ok rfl) ?_
                              refine WL.nil (WX.then_normal ?_)
                              refine WC.ret (WX.then_ret ?_)
                              exact WX.ret1 rfl rfl ⟨gr11, false, rfl, H⟩
                            · replace H := H.2 (nd_false b5)
                              refine WC.skip (WX.then_normal ?_)
                              refine WC.seq ?_
                              refine WC.region ?_
                              refine WL.y rfl (Yld.pure tab_ok rfl) ?_
                              refine WL.nil (WX.then_normal ?_)
                              refine WC.seq ?_
                              refine WC.seq ?_
                              refine WC.region ?_
                              refine WL.y rfl (Yld.pure tab_ok rfl) ?_
                              refine WL.y rfl (Yld.pure tab_ok rfl) ?_
                              refine WL.nil (WX.then_normal ?_)
                              refine WC.block ?_
                              obtain ⟨I1, mu1, h0_1, HR1⟩ := H
                              refine WC.loopF (fun n' L' w' => ∃ (found : Bool), ∃ (n : Int), n' = mu1 found n ∧ L' = [(0, .slice A_l l.length c_l), (12, .pointer (some ⟨g_t450, 0, none⟩)), (17, .int .i64 (if (l.length : Int) < (put + (1 : Int)) then (l.length : Int) else put + (1 : Int))), (19, .pointer (some ⟨g_t1190, 0, none⟩)), (21, .bool found), (22, .int .i64 n)] ∧ I1 found n ∧ w.grownBy w' none ∧ Bl w' g_t450 124 [.map (some g_t450_files), .int .i64 t450_22, .int .i64 t450_23, .bool t450_24] ∧ PoolO pe128 w' g_t450_files hs_t450_6 t450_21 none ∧ MapB vA okA vA w' g_t1190_l t1190_l ∧ Bl w' g_t1190 155 [.pointer (some ⟨g_t450, 0, none⟩), vs t1190_p, .map (some g_t1190_l)] ∧ AllP (Dj (some g_t450)) (FP g_t450_files hs_t450_6 none) ∧ Dj (some g_t450) (some g_t1190_l) ∧ Dj (some g_t450) (some g_t1190) ∧ AllP (Dj (some g_t1190_l)) (FP g_t450_files hs_t450_6 none) ∧ AllP (Dj (some g_t1190)) (FP g_t450_files hs_t450_6 none) ∧ Dj (some g_t1190_l) (some g_t1190) ∧ AllP (fun p => Ge p w.heap.size) (FP g_t450_files hs_t450_6 none)) _ _ ⟨false, safe, rfl, rfl, h0_1, gr11, hB6, hM6, ht1190_l, ht1190, dj15, dj16.symm, dj18.symm, dj17, dj19, dj14, (InA.toGe hi8 (apC (Ge.le hge2 (size_le gr1)) (InA.toGe hi6 (apC (Ge.le hge2 (size_le gr1)) hi5) (size_le gr8))) (size_le gr9))⟩ (by repeat (first | exact Sub.nil | refine Sub.cons rfl ?_)) ?_
                              clear h0_1
                              rintro _ _ w15 ⟨found, n, rfl, rfl, hI1, gr12, k7, k8, k9, k10, dj20, dj21, dj22, dj23, dj24, dj25, hi9⟩
                              have H := HR1 found n hI1
                              refine WC.seq ?_
                              refine WC.seq ?_
                              refine WC.region ?_
                              refine WL.y rfl (Yld.pure tab_ok rfl) ?_
                              refine WL.y rfl (Yld.pure tab_ok rfl) ?_
                              refine WL.y rfl (Yld.pure tab_ok rfl) ?_
                              refine WL.y rfl (Yld.pure tab_ok rfl) ?_
                              refine WL.midF 3 (fun L' w' => ∃ q8 : Bool, L' = [(135, .bool q8), (0, .slice A_l l.length c_l), (12, .pointer (some ⟨g_t450, 0, none⟩)), (17, .int .i64 (if (l.length : Int) < (put + (1 : Int)) then (l.length : Int) else put + (1 : Int))), (19, .pointer (some ⟨g_t1190, 0, none⟩)), (21, .bool found), (22, .int .i64 n)] ∧ ((decide (n ≤ (if (l.length : Int) < (put + (1 : Int)) then (l.length : Int) else put + (1 : Int)))) && (!found)) = q8 ∧ w15 = w') ?_ (fun hQ => ?_)
                              · rintro _ _ ⟨q8, rfl, rfl, rfl⟩
                                refine WL.nil (WX.then_normal ?_)
                                refine WC.cond rfl (fun b6 => ?_) (fun b6 => ?_)
                                · replace H := H.1 (b6)
                                  refine WC.skip (WX.then_normal ?_)
                                  refine WC.seq ?_
                                  refine WC.block ?_
                                  refine WC.seq ?_
                                  refine WC.region ?_
                                  refine WL.y rfl (Yld.pure tab_ok rfl) ?_
                                  refine WL.y rfl (Yld.pure tab_ok rfl) ?_
                                  refine WL.nil (WX.then_normal ?_)
                                  refine WC.seq ?_
                                  refine WC.seq ?_
                                  refine WC.region ?_
                                  refine WL.y rfl (Yld.pure tab_ok rfl) ?_
                                  refine WL.nil (WX.then_normal ?_)
                                  refine WC.block ?_
                                  obtain ⟨I2, mu2, h0_2, HR2⟩ := H
                                  refine WC.loopF (fun n' L' w' => ∃ (keys : List (List UInt8)), ∃ (A_keys : Option Addr), ∃ (c_keys : Nat), ∃ (n_keys : Nat), ∃ (outs : List (List UInt8)), ∃ (A_outs : Option Addr), ∃ (c_outs : Nat), ∃ (n_outs : Nat), ∃ (i : Int), n' = mu2 keys outs i ∧ L' = [(0, .slice A_l l.length c_l), (12, .pointer (some ⟨g_t450, 0, none⟩)), (17, .int .i64 (if (l.length : Int) < (put + (1 : Int)) then (l.length : Int) else put + (1 : Int))), (19, .pointer (some ⟨g_t1190, 0, none⟩)), (22, .int .i64 n), (23, .slice A_keys n_keys c_keys), (24, .slice A_outs n_outs c_outs), (25, .int .i64 i)] ∧ I2 keys outs i ∧ n_keys = keys.length ∧ n_outs = outs.length ∧ w.grownBy w' none ∧ Bl w' g_t450 124 [.map (some g_t450_files), .int .i64 t450_22, .int .i64 t450_23, .bool t450_24] ∧ PoolO pe128 w' g_t450_files hs_t450_6 t450_21 none ∧ MapB vA okA vA w' g_t1190_l t1190_l ∧ Bl w' g_t1190 155 [.pointer (some ⟨g_t450, 0, none⟩), vs t1190_p, .map (some g_t1190_l)] ∧ Own vs w' w.heap.size 9 A_keys c_keys keys ∧ Own vs w' w.heap.size 9 A_outs c_outs outs ∧ AllP (Dj (some g_t450)) (FP g_t450_files hs_t450_6 none) ∧ Dj (some g_t450) (some g_t1190_l) ∧ Dj (some g_t450) (some g_t1190) ∧ Dj (some g_t450) (blk A_keys) ∧ Dj (some g_t450) (blk A_outs) ∧ AllP (Dj (some g_t1190_l)) (FP g_t450_files hs_t450_6 none) ∧ AllP (Dj (some g_t1190)) (FP g_t450_files hs_t450_6 none) ∧ AllP (Dj (blk A_keys)) (FP g_t450_files hs_t450_6 none) ∧ AllP (Dj (blk A_outs)) (FP g_t450_files hs_t450_6 none) ∧ Dj (some g_t1190_l) (some g_t1190) ∧ Dj (some g_t1190_l) (blk A_keys) ∧ Dj (some g_t1190_l) (blk A_outs) ∧ Dj (some g_t1190) (blk A_keys) ∧ Dj (some g_t1190) (blk A_outs) ∧ Dj (blk A_keys) (blk A_outs) ∧ AllP (fun p => Ge p w.heap.size) (FP g_t450_files hs_t450_6 none)) _ _ ⟨[], none, 0, 0, [], none, 0, 0, (0 : Int), rfl, rfl, h0_2, rfl, rfl, gr12, k7, k8, k9, k10, (Own.nil vs w15 w.heap.size 9), (Own.nil vs w15 w.heap.size 9), dj20, dj21, dj22, Dj.nr, Dj.nr, dj23, dj24, apNl, apNl, dj25, Dj.nr, Dj.nr, Dj.nr, Dj.nr, Dj.nl, hi9⟩ (by repeat (first | exact Sub.nil | refine Sub.cons rfl ?_)) ?_
                                  clear h0_2
                                  rintro _ _ w16 ⟨keys, A_keys, c_keys, n_keys, outs, A_outs, c_outs, n_outs, i, rfl, rfl, hI2, rfl, rfl, gr13, k11, k12, k13, k14, k15, k16, dj26, dj27, dj28, dj29, dj30, dj31, dj32, dj33, dj34, dj35, dj36, dj37, dj38, dj39, dj40, hi10⟩
                                  have H := HR2 keys outs i hI2
                                  refine WC.seq ?_
                                  refine WC.seq ?_
                                  refine WC.region ?_
                                  refine WL.y rfl (Yld.pure tab_ok rfl) ?_
                                  refine WL.y rfl (Yld.pure tab_ok rfl) ?_
                                  refine WL.y rfl (Yld.pure tab_ok rfl) ?_
                                  refine WL.nil (WX.then_normal ?_)
                                  refine WC.cond rfl (fun b7 => ?_) (fun b7 => ?_)
                                  · replace H := H.1 (of_decide_eq_true b7)
                                    refine WC.skip (WX.then_normal ?_)
                                    refine WC.seq ?_
                                    obtain ⟨J3, H, hJ3⟩ := H
                                    refine WC.midF (fun L' w' => ∃ (keys2 : List (List UInt8)), ∃ (A_keys2 : Option Addr), ∃ (c_keys2 : Nat), ∃ (n_keys2 : Nat), ∃ (outs2 : List (List UInt8)), ∃ (A_outs2 : Option Addr), ∃ (c_outs2 : Nat), ∃ (n_outs2 : Nat), L' = [(0, .slice A_l l.length c_l), (12, .pointer (some ⟨g_t450, 0, none⟩)), (17, .int .i64 (if (l.length : Int) < (put + (1 : Int)) then (l.length : Int) else put + (1 : Int))), (19, .pointer (some ⟨g_t1190, 0, none⟩)), (22, .int .i64 n), (23, .slice A_keys2 n_keys2 c_keys2), (24, .slice A_outs2 n_outs2 c_outs2), (25, .int .i64 i)] ∧ J3 keys2 outs2 ∧ n_keys2 = keys2.length ∧ n_outs2 = outs2.length ∧ w.grownBy w' none ∧ Bl w' g_t450 124 [.map (some g_t450_files), .int .i64 t450_22, .int .i64 t450_23, .bool t450_24] ∧ PoolO pe128 w' g_t450_files hs_t450_6 t450_21 none ∧ MapB vA okA vA w' g_t1190_l t1190_l ∧ Bl w' g_t1190 155 [.pointer (some ⟨g_t450, 0, none⟩), vs t1190_p, .map (some g_t1190_l)] ∧ Own vs w' w.heap.size 9 A_keys2 c_keys2 keys2 ∧ Own vs w' w.heap.size 9 A_outs2 c_outs2 outs2 ∧ AllP (Dj (some g_t450)) (FP g_t450_files hs_t450_6 none) ∧ Dj (some g_t450) (some g_t1190_l) ∧ Dj (some g_t450) (some g_t1190) ∧ Dj (some g_t450) (blk A_keys2) ∧ Dj (some g_t450) (blk A_outs2) ∧ AllP (Dj (some g_t1190_l)) (FP g_t450_files hs_t450_6 none) ∧ AllP (Dj (some g_t1190)) (FP g_t450_files hs_t450_6 none) ∧ AllP (Dj (blk A_keys2)) (FP g_t450_files hs_t450_6 none) ∧ AllP (Dj (blk A_outs2)) (FP g_t450_files hs_t450_6 none) ∧ Dj (some g_t1190_l) (some g_t1190) ∧ Dj (some g_t1190_l) (blk A_keys2) ∧ Dj (some g_t1190_l) (blk A_outs2) ∧ Dj (some g_t1190) (blk A_keys2) ∧ Dj (some g_t1190) (blk A_outs2) ∧ Dj (blk A_keys2) (blk A_outs2) ∧ AllP (fun p => Ge p w.heap.size) (FP g_t450_files hs_t450_6 none)) ?_ (fun hQ => ?_)
                                    · clear H
                                      rintro _ w17 ⟨keys2, A_keys2, c_keys2, n_keys2, outs2, A_outs2, c_outs2, n_outs2, rfl, H, rfl, rfl, gr14, k17, k18, k19, k20, k21, k22, dj41, dj42, dj43, dj44, dj45, dj46, dj47, dj48, dj49, dj50, dj51, dj52, dj53, dj54, dj55, hi11⟩
                                      replace H := hJ3 keys2 outs2 H
                                      refine WX.then_normal ?_
                                      refine WC.region ?_
                                      refine WL.y rfl (Yld.pure tab_ok rfl) ?_
                                      obtain ⟨h4, H⟩ := H
                                      refine WL.y rfl (Yld.add rfl rfl h4) ?_
                                      refine WL.y rfl (Yld.pure tab_ok rfl) ?_
                                      refine WL.nil ?_
                                      exact WX.roundF _ ⟨keys2, A_keys2, c_keys2, keys2.length, outs2, A_outs2, c_outs2, outs2.length, i + (1 : Int), rfl, rfl, H.1, rfl, rfl, gr14, k17, k18, k19, k20, k21, k22, dj41, dj42, dj43, dj44, dj45, dj46, dj47, dj48, dj49, dj50, dj51, dj52, dj53, dj54, dj55, hi11⟩ (by repeat (first | exact Sub.nil | refine Sub.cons rfl ?_)) H.2
                                    · clear hJ3
                                      refine WC.block ?_
                                      refine WC.seq ?_
                                      refine WC.region ?_
                                      refine WL.y rfl (Yld.pure tab_ok rfl) ?_
                                      refine WL.y rfl (Yld.pure tab_ok rfl) ?_
                                      refine WL.y rfl (Yld.pure tab_ok rfl) ?_
                                      obtain ⟨h5, H⟩ := H
                                      refine WL.y rfl (Yld.iaddrW tab_ok (hl.grown gr13) rfl rfl rfl rfl h5.1 h5.2) ?_
                                      refine WL.y rfl (Yld.iload 0 tab_ok (hl.grown gr13) rfl rfl (iltN h5 rfl)) ?_
                                      refine WL.call rfl rfl (W_smithylaw25_name H) ?_
                                      rintro _ _ ⟨rfl, t148, rfl, H⟩
                                      refine WL.call rfl rfl (W_smithyref_AmongTexts k15.rd rfl H) ?_
                                      rintro _ _ ⟨rfl, k, rfl, H⟩
                                      refine WL.y rfl (Yld.pure tab_ok rfl) ?_
                                      refine WL.nil (WX.then_normal ?_)
                                      refine WC.seq ?_
                                      refine WC.region ?_
                                      refine WL.y rfl (Yld.pure tab_ok rfl) ?_
                                      refine WL.y rfl (Yld.pure tab_ok rfl) ?_
                                      refine WL.nil (WX.then_normal ?_)
                                      refine WC.cond rfl (fun b8 => ?_) (fun b8 => ?_)
                                      · replace H := H.1 (of_decide_eq_true b8)
                                        refine WC.seq ?_
                                        refine WC.region ?_
                                        refine WL.y rfl (Yld.pure tab_ok rfl) ?_
                                        refine WL.y rfl (Yld.pure tab_ok rfl) ?_
                                        refine WL.y rfl (Yld.pure tab_ok rfl) ?_
                                        obtain ⟨h6, H⟩ := H
                                        refine WL.y rfl (Yld.iaddrW tab_ok (hl.grown gr13) rfl rfl rfl rfl h6.1 h6.2) ?_
                                        refine WL.y rfl (Yld.iload 0 tab_ok (hl.grown gr13) rfl rfl (iltN h6 rfl)) ?_
                                        refine WL.call rfl rfl (W_smithylaw25_name H) ?_
                                        rintro _ _ ⟨rfl, t157, rfl, H⟩
                                        refine WL.lit tab_ok rfl rfl rfl (all1c rfl all1n) rfl (by omega) (fun g1 w18 hB7 hg4 hl1 => ?_)
                                        have hO1 : Own vs w18 w.heap.size 9 (some ⟨g1, 0, none⟩) 1 ([t157] : List (List UInt8)) := Own.ofBl hB7 (Nat.le_trans (size_le gr13) hl1) (by simp [maxLen]) rfl
                                        have gr15 := gr_trans gr13 hg4
                                        have k23 := k11.g0 hg4
                                        have k24 := k12.g0 hg4
                                        have k25 := k13.g0 hg4
                                        have k26 := k14.g0 hg4
                                        have k27 := k15.grown hg4
                                        have k28 := k16.grown hg4
                                        obtain ⟨h7, H⟩ := H
                                        refine WL.append tab_ok rfl rfl One.s k27 rfl rfl hO1.rd rfl rfl h7 (applen h7) (size_le gr15) (fun A_keys3 c_keys3 w19 hO2 hg5 hk1 => ?_)
                                        have gr16 := gr_mod gr15 hg5 k27.ge'
                                        have k29 := k23.go hg5 dj29
                                        have k30 := k24.go hg5 dj33
                                        have k31 := k25.go hg5 dj36
                                        have k32 := k26.go hg5 dj38
                                        have k33 := k28.go hg5 dj40.symm
                                        refine WL.y rfl (Yld.pure tab_ok rfl) ?_
                                        refine WL.nil (WX.then_normal ?_)
                                        refine WC.region ?_
                                        refine WL.y rfl (Yld.pure tab_ok rfl) ?_
                                        refine WL.y rfl (Yld.pure tab_ok rfl) ?_
                                        refine WL.call rfl rfl (W_smithylaw25_name H) ?_
                                        rintro _ _ ⟨rfl, t162, rfl, H⟩
                                        refine WL.lit tab_ok rfl rfl rfl (all1c rfl all1n) rfl (by omega) (fun g2 w20 hB8 hg6 hl2 => ?_)
                                        have hO3 : Own vs w20 w.heap.size 9 (some ⟨g2, 0, none⟩) 1 ([t162] : List (List UInt8)) := Own.ofBl hB8 (Nat.le_trans (size_le gr16) hl2) (by simp [maxLen]) rfl
                                        have gr17 := gr_trans gr16 hg6
                                        have k34 := k29.g0 hg6
                                        have k35 := k30.g0 hg6
                                        have k36 := k31.g0 hg6
                                        have k37 := k32.g0 hg6
                                        have k38 := k33.grown hg6
                                        have k39 := hO2.grown hg6
                                        obtain ⟨h8, H⟩ := H
                                        refine WL.append tab_ok rfl rfl One.s k38 rfl rfl hO3.rd rfl rfl h8 (applen h8) (size_le gr17) (fun A_outs3 c_outs3 w21 hO4 hg7 hk2 => ?_)
                                        have gr18 := gr_mod gr17 hg7 k38.ge'
                                        have k40 := k34.go hg7 dj30
                                        have k41 := k35.go hg7 dj34
                                        have k42 := k36.go hg7 dj37
                                        have k43 := k37.go hg7 dj39
                                        have k44 := k39.go hg7 (Dj.app dj40 k28.lt' hk1)
                                        refine WL.y rfl (Yld.pure tab_ok rfl) ?_
                                        refine WL.nil (WX.block_normal ?_)
                                        exact WX.weaken (by repeat (first | exact Sub.nil | refine Sub.cons rfl ?_)) (hQ _ _ ⟨keys ++ ([t157] : List (List UInt8)), A_keys3, c_keys3, (keys ++ ([t157] : List (List UInt8))).length, outs ++ ([t162] : List (List UInt8)), A_outs3, c_outs3, (outs ++ ([t162] : List (List UInt8))).length, rfl, H, rfl, rfl, gr18, k40, k41, k42, k43, k44, hO4, dj26, dj27, dj28, (Dj.app dj29.symm k23.lt' hk1).symm, (Dj.app dj30.symm k34.lt' hk2).symm, dj31, dj32, (PoolO.app k24 dj33 hk1), (PoolO.app k35 dj34 hk2), dj35, (Dj.app dj36.symm k25.lt' hk1).symm, (Dj.app dj37.symm k36.lt' hk2).symm, (Dj.app dj38.symm k26.lt' hk1).symm, (Dj.app dj39.symm k37.lt' hk2).symm, (Dj.app (Dj.app dj40 k28.lt' hk1).symm k39.lt' hk2).symm, hi10⟩)
                                      · replace H := H.2 (of_decide_eq_false b8)
                                        refine WC.region ?_
                                        refine WL.y rfl (Yld.pure tab_ok rfl) ?_
                                        refine WL.y rfl (Yld.pure tab_ok rfl) ?_
                                        refine WL.y rfl (Yld.pure tab_ok rfl) ?_
                                        refine WL.call rfl rfl (W_smithylaw25_name H) ?_
                                        rintro _ _ ⟨rfl, t168, rfl, H⟩
                                        obtain ⟨h9, H⟩ := H
                                        refine WL.y rfl (Yld.iaddrW tab_ok k16.rd rfl rfl rfl rfl h9.1 h9.2) ?_
                                        refine WL.ostore (v := t168) one9 One.s k16 rfl rfl (iltN h9 rfl) (fun w22 hO5 hg8 => ?_)
                                        have gr19 := gr_mod gr13 hg8 k16.ge'
                                        have k45 := k11.go hg8 dj30
                                        have k46 := k12.go hg8 dj34
                                        have k47 := k13.go hg8 dj37
                                        have k48 := k14.go hg8 dj39
                                        have k49 := k15.go hg8 dj40
                                        refine WL.nil (WX.block_normal ?_)
                                        exact WX.weaken (by repeat (first | exact Sub.nil | refine Sub.cons rfl ?_)) (hQ _ _ ⟨keys, A_keys, c_keys, keys.length, outs.set k.toNat t168, A_outs, c_outs, outs.length, rfl, H, rfl, List.length_set.symm, gr19, k45, k46, k47, k48, k49, hO5, dj26, dj27, dj28, dj29, dj30, dj31, dj32, dj33, dj34, dj35, dj36, dj37, dj38, dj39, dj40, hi10⟩)
                                  · replace H := H.2 (of_decide_eq_false b7)
                                    refine WC.exit (WX.then_exit (WX.then_exit (WX.block_same (WX.then_normal ?_))))
                                    refine WC.seq ?_
                                    refine WC.region ?_
                                    refine WL.y rfl (Yld.pure tab_ok rfl) ?_
                                    refine WL.call rfl rfl (W_pcache_Cache_Len k12 k11 k13 k14 H) ?_
                                    rintro _ _ ⟨rfl, t171, rfl, H⟩
                                    refine WL.y rfl (Yld.pure tab_ok rfl) ?_
                                    refine WL.y rfl (Yld.pure tab_ok rfl) ?_
                                    refine WL.y rfl (Yld.pure tab_ok rfl) ?_
                                    refine WL.y rfl (Yld.pure tab_ok rfl) ?_
                                    refine WL.nil (WX.then_normal ?_)
                                    refine WC.seq ?_
                                    refine WC.seq ?_
                                    refine WC.region ?_
                                    refine WL.y rfl (Yld.pure tab_ok rfl) ?_
                                    refine WL.nil (WX.then_normal ?_)
                                    refine WC.block ?_
                                    obtain ⟨I3, mu3, h0_3, HR3⟩ := H
                                    refine WC.loopF (fun n' L' w' => ∃ (fits : Bool), ∃ (i2 : Int), n' = mu3 fits i2 ∧ L' = [(0, .slice A_l l.length c_l), (12, .pointer (some ⟨g_t450, 0, none⟩)), (17, .int .i64 (if (l.length : Int) < (put + (1 : Int)) then (l.length : Int) else put + (1 : Int))), (19, .pointer (some ⟨g_t1190, 0, none⟩)), (22, .int .i64 n), (23, .slice A_keys keys.length c_keys), (24, .slice A_outs outs.length c_outs), (27, .bool fits), (28, .int .i64 i2)] ∧ I3 fits i2 ∧ w.grownBy w' none ∧ Bl w' g_t450 124 [.map (some g_t450_files), .int .i64 t450_22, .int .i64 t450_23, .bool t450_24] ∧ PoolO pe128 w' g_t450_files hs_t450_6 t450_21 none ∧ MapB vA okA vA w' g_t1190_l t1190_l ∧ Bl w' g_t1190 155 [.pointer (some ⟨g_t450, 0, none⟩), vs t1190_p, .map (some g_t1190_l)] ∧ Own vs w' w.heap.size 9 A_keys c_keys keys ∧ Own vs w' w.heap.size 9 A_outs c_outs outs ∧ AllP (Dj (some g_t450)) (FP g_t450_files hs_t450_6 none) ∧ Dj (some g_t450) (some g_t1190_l) ∧ Dj (some g_t450) (some g_t1190) ∧ Dj (some g_t450) (blk A_keys) ∧ Dj (some g_t450) (blk A_outs) ∧ AllP (Dj (some g_t1190_l)) (FP g_t450_files hs_t450_6 none) ∧ AllP (Dj (some g_t1190)) (FP g_t450_files hs_t450_6 none) ∧ AllP (Dj (blk A_keys)) (FP g_t450_files hs_t450_6 none) ∧ AllP (Dj (blk A_outs)) (FP g_t450_files hs_t450_6 none) ∧ Dj (some g_t1190_l) (some g_t1190) ∧ Dj (some g_t1190_l) (blk A_keys) ∧ Dj (some g_t1190_l) (blk A_outs) ∧ Dj (some g_t1190) (blk A_keys) ∧ Dj (some g_t1190) (blk A_outs) ∧ Dj (blk A_keys) (blk A_outs) ∧ AllP (fun p => Ge p w.heap.size) (FP g_t450_files hs_t450_6 none)) _ _ ⟨decide (t171 = (keys.length : Int)), (0 : Int), rfl, rfl, h0_3, gr13, k11, k12, k13, k14, k15, k16, dj26, dj27, dj28, dj29, dj30, dj31, dj32, dj33, dj34, dj35, dj36, dj37, dj38, dj39, dj40, hi10⟩ (by repeat (first | exact Sub.nil | refine Sub.cons rfl ?_)) ?_
                                    clear h0_3
                                    rintro _ _ w23 ⟨fits, i2, rfl, rfl, hI3, gr20, k50, k51, k52, k53, k54, k55, dj56, dj57, dj58, dj59, dj60, dj61, dj62, dj63, dj64, dj65, dj66, dj67, dj68, dj69, dj70, hi12⟩
                                    have H := HR3 fits i2 hI3
                                    refine WC.seq ?_
                                    refine WC.seq ?_
                                    refine WC.region ?_
                                    refine WL.y rfl (Yld.pure tab_ok rfl) ?_
                                    refine WL.y rfl (Yld.pure tab_ok rfl) ?_
                                    refine WL.y rfl (Yld.pure tab_ok rfl) ?_
                                    refine WL.y rfl (Yld.pure tab_ok rfl) ?_
                                    refine WL.y rfl (Yld.pure tab_ok rfl) ?_
                                    refine WL.midF 2 (fun L' w' => ∃ q9 : Bool, L' = [(181, .bool q9), (0, .slice A_l l.length c_l), (12, .pointer (some ⟨g_t450, 0, none⟩)), (17, .int .i64 (if (l.length : Int) < (put + (1 : Int)) then (l.length : Int) else put + (1 : Int))), (19, .pointer (some ⟨g_t1190, 0, none⟩)), (22, .int .i64 n), (23, .slice A_keys keys.length c_keys), (24, .slice A_outs outs.length c_outs), (27, .bool fits), (28, .int .i64 i2)] ∧ ((decide (i2 < (keys.length : Int))) && fits) = q9 ∧ w23 = w') ?_ (fun hQ => ?_)
                                    · rintro _ _ ⟨q9, rfl, rfl, rfl⟩
                                      refine WL.nil (WX.then_normal ?_)
                                      refine WC.cond rfl (fun b9 => ?_) (fun b9 => ?_)
                                      · replace H := H.1 (b9)
                                        refine WC.skip (WX.then_normal ?_)
                                        refine WC.seq ?_
                                        refine WC.block ?_
                                        refine WC.seq ?_
                                        refine WC.region ?_
                                        refine WL.y rfl (Yld.pure tab_ok rfl) ?_
                                        refine WL.y rfl (Yld.pure tab_ok rfl) ?_
                                        refine WL.y rfl (Yld.pure tab_ok rfl) ?_
                                        obtain ⟨h10, H⟩ := H
                                        refine WL.y rfl (Yld.iaddrW tab_ok k54.rd rfl rfl rfl rfl h10.1 h10.2) ?_
                                        refine WL.y rfl (Yld.iload [] tab_ok k54.rd rfl rfl (iltN h10 rfl)) ?_
                                        refine WL.call rfl rfl (W_key_Source H) ?_
                                        rintro _ w24 ⟨hg9, t190, rfl, H⟩
                                        have gr21 := gr_trans gr20 hg9
                                        have k56 := k50.g0 hg9
                                        have k57 := k51.g0 hg9
                                        have k58 := k52.g0 hg9
                                        have k59 := k53.g0 hg9
                                        have k60 := k54.grown hg9
                                        have k61 := k55.grown hg9
                                        refine WL.call rfl rfl (W_pcache_Cache_Get k57 k56 k58 k59 H) ?_
                                        rintro _ w25 ⟨hg10, t1910, t1911, rfl, H⟩
                                        have gr22 := gr_trans gr21 hg10
                                        have k62 := k56.g0 hg10
                                        have k63 := k57.g0 hg10
                                        have k64 := k58.g0 hg10
                                        have k65 := k59.g0 hg10
                                        have k66 := k60.grown hg10
                                        have k67 := k61.grown hg10
                                        refine WL.y rfl (Yld.pure tab_ok rfl) ?_
                                        refine WL.y rfl (Yld.pure tab_ok rfl) ?_
                                        refine WL.y rfl (Yld.pure tab_ok rfl) ?_
                                        refine WL.alloc rfl zero74 (fun g3 w26 hB9 hg11 hl3 => ?_)
                                        rw [a32_zero] at hB9
                                        have gr23 := gr_trans gr22 hg11
                                        have k68 := k62.g0 hg11
                                        have k69 := k63.g0 hg11
                                        have k70 := k64.g0 hg11
                                        have k71 := k65.g0 hg11
                                        have k72 := k66.grown hg11
                                        have k73 := k67.grown hg11
                                        refine WL.storeW (vs := (a32 t1910)) tab_ok rfl rfl rfl (all1a (a32_one _) all1n) hB9 rfl rfl (fun w27 hB10 hg12 => ?_)
                                        have gr24 := gr_mod gr23 hg12 (Ge.le (Ge.box hl3) (size_le gr22))
                                        have k74 := k68.go hg12 (Dj.new k62.lt' (Ge.box hl3))
                                        have k75 := k69.go hg12 (k63.new (Ge.box hl3))
                                        have k76 := k70.go hg12 (Dj.new k64.lt' (Ge.box hl3))
                                        have k77 := k71.go hg12 (Dj.new k65.lt' (Ge.box hl3))
                                        have k78 := k72.go hg12 (Dj.new k66.lt' (Ge.box hl3))
                                        have k79 := k73.go hg12 (Dj.new k67.lt' (Ge.box hl3))
                                        refine WL.y rfl (Yld.pure tab_ok rfl) ?_
                                        refine WL.nil (WX.then_normal ?_)
                                        refine WC.chainF (fun k => !(Nat.beq k 7 || Nat.beq k 8)) (LD [2, 6] (fun w' => Bl w' g3 74 (a32 t1910) ∧ Rd vs w' A_outs c_outs outs)) mixed (by kernel_rfl) (fun k w' h _ => ⟨(bl_eqv h hB10), (rd_eqv h k79.rd)⟩) ?_
                                        refine WJ.y rfl rfl (fun w' hw' => Yld.pure tab_ok rfl) ?_
                                        refine WJ.y rfl rfl (fun w' hw' => Yld.pure tab_ok rfl) ?_
                                        obtain ⟨J4, H, hJ4⟩ := H
                                        refine WJ.midF 8 (fun L' w' => ∃ q10 : Bool, L' = [(203, .bool q10), (0, .slice A_l l.length c_l), (12, .pointer (some ⟨g_t450, 0, none⟩)), (17, .int .i64 (if (l.length : Int) < (put + (1 : Int)) then (l.length : Int) else put + (1 : Int))), (19, .pointer (some ⟨g_t1190, 0, none⟩)), (22, .int .i64 n), (23, .slice A_keys keys.length c_keys), (24, .slice A_outs outs.length c_outs), (28, .int .i64 i2)] ∧ J4 q10 ∧ w.grownBy w' none ∧ Bl w' g_t450 124 [.map (some g_t450_files), .int .i64 t450_22, .int .i64 t450_23, .bool t450_24] ∧ PoolO pe128 w' g_t450_files hs_t450_6 t450_21 none ∧ MapB vA okA vA w' g_t1190_l t1190_l ∧ Bl w' g_t1190 155 [.pointer (some ⟨g_t450, 0, none⟩), vs t1190_p, .map (some g_t1190_l)] ∧ Own vs w' w.heap.size 9 A_keys c_keys keys ∧ Own vs w' w.heap.size 9 A_outs c_outs outs ∧ Bl w' g3 74 (a32 t1910)) ?_ (fun hQ => ?_)
                                        · clear H
                                          rintro _ w28 ⟨q10, rfl, H, gr25, k80, k81, k82, k83, k84, k85, k86⟩
                                          replace H := hJ4 q10 H
                                          refine WJ.y rfl rfl (fun w' hw' => Yld.pure tab_ok rfl) ?_
                                          refine WJ.nil (WX.block_normal (WX.then_normal ?_))
                                          refine WC.region ?_
                                          refine WL.y rfl (Yld.pure tab_ok rfl) ?_
                                          obtain ⟨h11, H⟩ := H
                                          refine WL.y rfl (Yld.add rfl rfl h11) ?_
                                          refine WL.y rfl (Yld.pure tab_ok rfl) ?_
                                          refine WL.nil ?_
                                          exact WX.roundF _ ⟨q10, i2 + (1 : Int), rfl, rfl, H.1, gr25, k80, k81, k82, k83, k84, k85, dj56, dj57, dj58, dj59, dj60, dj61, dj62, dj63, dj64, dj65, dj66, dj67, dj68, dj69, dj70, hi12⟩ (by repeat (first | exact Sub.nil | refine Sub.cons rfl ?_)) H.2
                                        · clear hJ4
                                          rcases Bool.eq_false_or_eq_true (t1911) with b10 | b10
                                          · replace H := H.1 b10
                                            refine WJ.yw rfl (wants_some rfl rfl (okb b10)) rfl (fun w' hw' => Yld.bagg (vs := (a32 t1910)) tab_ok (hw' rfl).1 rfl rfl rfl rfl) ?_
                                            refine WJ.yw rfl (wants_some rfl rfl (okb b10)) rfl (fun w' hw' => Yld.pure tab_ok rfl) ?_
                                            refine WJ.yw rfl (wants_some rfl rfl (okb b10)) rfl (fun w' hw' => Yld.pure tab_ok rfl) ?_
                                            obtain ⟨h12, H⟩ := H
                                            refine WJ.yw rfl (wants_some rfl rfl (okb b10)) rfl (fun w' hw' => Yld.iaddrW tab_ok k79.rd rfl rfl rfl rfl h12.1 h12.2) ?_
                                            refine WJ.yw rfl (wants_some rfl rfl (okb b10)) rfl (fun w' hw' => Yld.iload [] tab_ok (hw' rfl).2 rfl rfl (iltN h12 rfl)) ?_
                                            refine WJ.call rfl (wants_some rfl rfl (okb b10)) rfl rfl (W_key_Source H) (fun v w' h w2 e => DD.keep (⟨(Bl.g0 hB10 (gr_eqv h.1 e)), (Rd.grown k79.rd (gr_eqv h.1 e))⟩)) ?_
                                            rintro _ w29 ⟨hg13, t201, rfl, H⟩
                                            have gr26 := gr_trans gr24 hg13
                                            have k87 := k74.g0 hg13
                                            have k88 := k75.g0 hg13
                                            have k89 := k76.g0 hg13
                                            have k90 := k77.g0 hg13
                                            have k91 := k78.grown hg13
                                            have k92 := k79.grown hg13
                                            have k93 := hB10.g0 hg13
                                            refine WJ.call rfl (wants_some rfl rfl (okb b10)) rfl rfl (W_smithyref17_SameSum H) (fun v w' h w2 e => DD.keep (⟨(Bl.g0 k93 (gr_eqv h.1 e)), (Rd.grown k92.rd (gr_eqv h.1 e))⟩)) ?_
                                            rintro _ w30 ⟨hg14, t202, rfl, H⟩
                                            have gr27 := gr_trans gr26 hg14
                                            have k94 := k87.g0 hg14
                                            have k95 := k88.g0 hg14
                                            have k96 := k89.g0 hg14
                                            have k97 := k90.g0 hg14
                                            have k98 := k91.grown hg14
                                            have k99 := k92.grown hg14
                                            have k100 := k93.g0 hg14
                                            refine WJ.y rfl rfl (fun w' hw' => Yld.pickT (okb b10) rfl) ?_
                                            exact WJ.weaken (by repeat (first | exact Sub.nil | refine Sub.cons rfl ?_)) (hQ _ _ ⟨t202, rfl, H, gr27, k94, k95, k96, k97, k98, k99, k100⟩)
                                          · replace H := H.2 b10
                                            refine WJ.no rfl rfl (okb b10) rfl ?_
                                            refine WJ.no rfl rfl (okb b10) rfl ?_
                                            refine WJ.no rfl rfl (okb b10) rfl ?_
                                            refine WJ.no rfl rfl (okb b10) rfl ?_
                                            refine WJ.no rfl rfl (okb b10) rfl ?_
                                            refine WJ.no rfl rfl (okb b10) rfl ?_
                                            refine WJ.no rfl rfl (okb b10) rfl ?_
                                            refine WJ.y rfl rfl (fun w' hw' => Yld.pickF (okb b10) rfl) ?_
                                            exact WJ.weaken (by repeat (first | exact Sub.nil | refine Sub.cons rfl ?_)) (hQ _ _ ⟨false, rfl, H, gr24, k74, k75, k76, k77, k78, k79, hB10⟩)
                                      · replace H := H.2 (b9)
                                        refine WC.exit (WX.then_exit (WX.then_exit (WX.block_same (WX.then_normal ?_))))
                                        refine WC.region ?_
                                        refine WL.y rfl (Yld.pure tab_ok rfl) ?_
                                        refine WL.y rfl (Yld.pure tab_ok rfl) ?_
                                        refine WL.nil (WX.block_normal (WX.then_normal ?_))
                                        refine WC.region ?_
                                        refine WL.y rfl (Yld.pure tab_ok rfl) ?_
                                        obtain ⟨h13, H⟩ := H
                                        refine WL.y rfl (Yld.add rfl rfl h13) ?_
                                        refine WL.y rfl (Yld.pure tab_ok rfl) ?_
                                        refine WL.nil ?_
                                        exact WX.roundF _ ⟨fits, n + (1 : Int), rfl, rfl, H.1, gr20, k50, k51, k52, k53, dj56, dj57, dj58, dj61, dj62, dj65, hi12⟩ (by repeat (first | exact Sub.nil | refine Sub.cons rfl ?_)) H.2
                                    · clear H
                                      rcases Bool.eq_false_or_eq_true (decide (i2 < (keys.length : Int))) with b11 | b11
                                      · refine WL.gyes rfl rfl (okb b11) rfl (Yld.pure tab_ok rfl) ?_
                                        refine WL.y rfl (Yld.pickT (okb b11) rfl) ?_
                                        exact WL.weaken (by repeat (first | exact Sub.nil | refine Sub.cons rfl ?_)) (hQ _ _ ⟨fits, rfl, by rw [b11] <;> rfl, rfl⟩)
                                      · refine WL.gno rfl rfl (okb b11) rfl ?_
                                        refine WL.y rfl (Yld.pickF (okb b11) rfl) ?_
                                        exact WL.weaken (by repeat (first | exact Sub.nil | refine Sub.cons rfl ?_)) (hQ _ _ ⟨false, rfl, by rw [b11] <;> rfl, rfl⟩)
                                · replace H := H.2 (b6)
                                  refine WC.exit (WX.then_exit (WX.then_exit (WX.block_same (WX.then_normal ?_))))
                                  refine WC.seq ?_
                                  refine WC.region ?_
                                  refine WL.y rfl (Yld.pure tab_ok rfl) ?_
                                  refine WL.call rfl rfl (W_cache_Open (GB.grown hG gr12) (size_le gr12) (apC (Ge.le hge2 (size_le gr1)) hi9) hS9 hS11 hS12 hS15 hS100 k8 k7 dj20 H) ?_
                                  rintro v_ w31 ⟨hg_, hc_ | hc_⟩
                                  · obtain ⟨v_t2071, t2071, hs_t450_7, t450_25, t450_26, t450_27, t450_28, rfl, ht2071, hB11, hM7, hi13, dj71, H⟩ := hc_
                                    have hgl7 := hg_
                                    have gr28 := gr_modL gr12 hgl7 (apC (Ge.le hge2 (size_le gr1)) hi9)
                                    have k101 := k9.goL hgl7 (apC dj21.symm dj23)
                                    have k102 := k10.goL hgl7 (apC dj22.symm dj24)
                                    refine WL.y rfl (Yld.pure tab_ok rfl) ?_
                                    refine WL.y rfl (Yld.pure tab_ok rfl) ?_
                                    refine WL.y rfl (Yld.pure tab_ok rfl) ?_
                                    refine WL.y rfl (Yld.pure tab_ok rfl) ?_
                                    refine WL.y rfl (Yld.pure tab_ok rfl) ?_
                                    refine WL.nil (WX.then_normal ?_)
                                    refine WC.seq ?_
                                    refine WC.region ?_
                                    refine WL.y rfl (Yld.pure tab_ok rfl) ?_
                                    refine WL.y rfl (Yld.pure tab_ok rfl) ?_
                                    refine WL.midF 3 (fun L' w' => ∃ q11 : Bool, L' = [(214, .bool q11), (19, .pointer (some ⟨g_t1190, 0, none⟩)), (31, .pointer none), (32, v_t2071)] ∧ false = q11 ∧ w31 = w') ?_ (fun hQ => ?_)
                                    · rintro _ _ ⟨q11, rfl, rfl, rfl⟩
                                      refine WL.y rfl (Yld.pure tab_ok rfl) ?_
                                      refine WL.midF 3 (fun L' w' => ∃ q12 : Bool, L' = [(218, .bool q12), (19, .pointer (some ⟨g_t1190, 0, none⟩)), (31, .pointer none)] ∧ false = q12 ∧ w31 = w') ?_ (fun hQ => ?_)
                                      · rintro _ _ ⟨q12, rfl, rfl, rfl⟩
                                        refine WL.y rfl (Yld.pure tab_ok rfl) ?_
                                        obtain ⟨J5, H, hJ5⟩ := H
                                        refine WL.midF 6 (fun L' w' => ∃ q13 : Bool, L' = [(225, .bool q13)] ∧ J5 q13 ∧ w31 = w') ?_ (fun hQ => ?_)
                                        · clear H
                                          rintro _ _ ⟨q13, rfl, H, rfl⟩
                                          replace H := hJ5 q13 H
                                          refine WL.y rfl (Yld.pure tab_ok rfl) ?_
                                          refine WL.nil (WX.then_normal ?_)
                                          refine WC.ret ?_
                                          exact WX.ret1 rfl rfl ⟨gr28, q13, rfl, H⟩
                                        · clear hJ5
                                          refine WL.gno rfl rfl (rfl) rfl ?_
                                          refine WL.gno rfl rfl (rfl) rfl ?_
                                          refine WL.gno rfl rfl (rfl) rfl ?_
                                          refine WL.gno rfl rfl (rfl) rfl ?_
                                          refine WL.gno rfl rfl (rfl) rfl ?_
                                          refine WL.y rfl (Yld.pickF (rfl) rfl) ?_
                                          exact WL.weaken (by repeat (first | exact Sub.nil | refine Sub.cons rfl ?_)) (hQ _ _ ⟨false, rfl, H, rfl⟩)
                                      · clear H
                                        refine WL.gno rfl rfl (rfl) rfl ?_
                                        refine WL.gno rfl rfl (rfl) rfl ?_
                                        refine WL.y rfl (Yld.pickF (rfl) rfl) ?_
                                        exact WL.weaken (by repeat (first | exact Sub.nil | refine Sub.cons rfl ?_)) (hQ _ _ ⟨false, rfl, rfl, rfl⟩)
                                    · clear H
                                      rcases Bool.eq_false_or_eq_true (found) with b12 | b12
                                      · refine WL.gyes rfl rfl (okb b12) rfl (Yld.pure tab_ok rfl) ?_
                                        refine WL.gyes rfl rfl (okb b12) rfl (Yld.pnenil Tryd.underlying85 rfl rfl) ?_
                                        refine WL.y rfl (Yld.pickT (okb b12) rfl) ?_
                                        exact WL.weaken (by repeat (first | exact Sub.nil | refine Sub.cons rfl ?_)) (hQ _ _ ⟨false, rfl, rfl, rfl⟩)
                                      · refine WL.gno rfl rfl (okb b12) rfl ?_
                                        refine WL.gno rfl rfl (okb b12) rfl ?_
                                        refine WL.y rfl (Yld.pickF (okb b12) rfl) ?_
                                        exact WL.weaken (by repeat (first | exact Sub.nil | refine Sub.cons rfl ?_)) (hQ _ _ ⟨false, rfl, rfl, rfl⟩)
                                  · obtain ⟨g_t2070, t2070_p, g_t2070_l, t2070_l, v_t20712, t20712, hs_t450_8, t450_29, t450_30, t450_31, t450_32, rfl, ht20712, ht2070_l, hge7, ht2070, hge8, dj72, hB12, hM8, hi14, dj73, dj74, dj75, dj76, dj77, H⟩ := hc_
                                    have hgl8 := hg_
                                    have gr29 := gr_modL gr12 hgl8 (apC (Ge.le hge2 (size_le gr1)) hi9)
                                    have k103 := k9.goL hgl8 (apC dj21.symm dj23)
                                    have k104 := k10.goL hgl8 (apC dj22.symm dj24)
                                    refine WL.y rfl (Yld.pure tab_ok rfl) ?_
                                    refine WL.y rfl (Yld.pure tab_ok rfl) ?_
                                    refine WL.y rfl (Yld.pure tab_ok rfl) ?_
                                    refine WL.y rfl (Yld.pure tab_ok rfl) ?_
                                    refine WL.y rfl (Yld.pure tab_ok rfl) ?_
                                    refine WL.nil (WX.then_normal ?_)
                                    refine WC.seq ?_
                                    refine WC.region ?_
                                    refine WL.y rfl (Yld.pure tab_ok rfl) ?_
                                    refine WL.y rfl (Yld.pure tab_ok rfl) ?_
                                    refine WL.midF 3 (fun L' w' => ∃ q14 : Bool, L' = [(214, .bool q14), (19, .pointer (some ⟨g_t1190, 0, none⟩)), (31, .pointer (some ⟨g_t2070, 0, none⟩)), (32, v_t20712)] ∧ found = q14 ∧ w31 = w') ?_ (fun hQ => ?_)
                                    · rintro _ _ ⟨q14, rfl, rfl, rfl⟩
                                      refine WL.y rfl (Yld.pure tab_ok rfl) ?_
                                      refine WL.midF 3 (fun L' w' => ∃ q15 : Bool, L' = [(218, .bool q15), (19, .pointer (some ⟨g_t1190, 0, none⟩)), (31, .pointer (some ⟨g_t2070, 0, none⟩))] ∧ (found && (decide (t20712 = Er.ok))) = q15 ∧ w31 = w') ?_ (fun hQ => ?_)
                                      · rintro _ _ ⟨q15, rfl, rfl, rfl⟩
                                        refine WL.y rfl (Yld.pure tab_ok rfl) ?_
                                        obtain ⟨J6, H, hJ6⟩ := H
                                        refine WL.midF 6 (fun L' w' => ∃ q16 : Bool, L' = [(225, .bool q16)] ∧ J6 q16 ∧ w31 = w') ?_ (fun hQ => ?_)
                                        · clear H
                                          rintro _ _ ⟨q16, rfl, H, rfl⟩
                                          replace H := hJ6 q16 H
                                          refine WL.y rfl (Yld.pure tab_ok rfl) ?_
                                          refine WL.nil (WX.then_normal ?_)
                                          refine WC.ret ?_
                                          exact WX.ret1 rfl rfl ⟨gr29, q16, rfl, H⟩
                                        · clear hJ6
                                          rcases Bool.eq_false_or_eq_true (found && (decide (t20712 = Er.ok))) with b13 | b13
                                          · replace H := H.1 b13
                                            refine WL.gyes rfl rfl (okb b13) rfl (Yld.pure tab_ok rfl) ?_
                                            refine WL.callw (wants_some rfl rfl (okb b13)) rfl rfl (W_pcache_Cache_Len hM8 hB12 ht2070_l ht2070 H) ?_
                                            rintro _ _ ⟨rfl, t221, rfl, H⟩
                                            refine WL.gyes rfl rfl (okb b13) rfl (Yld.pure tab_ok rfl) ?_
                                            refine WL.callw (wants_some rfl rfl (okb b13)) rfl rfl (W_pcache_Cache_Len hM8 hB12 k103 k104 H) ?_
                                            rintro _ _ ⟨rfl, t223, rfl, H⟩
                                            refine WL.gyes rfl rfl (okb b13) rfl (Yld.pure tab_ok rfl) ?_
                                            refine WL.y rfl (Yld.pickT (okb b13) rfl) ?_
                                            exact WL.weaken (by repeat (first | exact Sub.nil | refine Sub.cons rfl ?_)) (hQ _ _ ⟨decide (t221 = t223), rfl, H, rfl⟩)
                                          · replace H := H.2 b13
                                            refine WL.gno rfl rfl (okb b13) rfl ?_
                                            refine WL.gno rfl rfl (okb b13) rfl ?_
                                            refine WL.gno rfl rfl (okb b13) rfl ?_
                                            refine WL.gno rfl rfl (okb b13) rfl ?_
                                            refine WL.gno rfl rfl (okb b13) rfl ?_
                                            refine WL.y rfl (Yld.pickF (okb b13) rfl) ?_
                                            exact WL.weaken (by repeat (first | exact Sub.nil | refine Sub.cons rfl ?_)) (hQ _ _ ⟨false, rfl, H, rfl⟩)
                                      · clear H
                                        rcases Bool.eq_false_or_eq_true (found) with b14 | b14
                                        · refine WL.gyes rfl rfl (okb b14) rfl (Yld.pure tab_ok rfl) ?_
                                          refine WL.gyes rfl rfl (okb b14) rfl (Yld.erreql Tryd.underlying29 ht20712 rfl) ?_
                                          refine WL.y rfl (Yld.pickT (okb b14) rfl) ?_
                                          exact WL.weaken (by repeat (first | exact Sub.nil | refine Sub.cons rfl ?_)) (hQ _ _ ⟨decide (t20712 = Er.ok), rfl, by rw [b14] <;> rfl, rfl⟩)
                                        · refine WL.gno rfl rfl (okb b14) rfl ?_
                                          refine WL.gno rfl rfl (okb b14) rfl ?_
                                          refine WL.y rfl (Yld.pickF (okb b14) rfl) ?_
                                          exact WL.weaken (by repeat (first | exact Sub.nil | refine Sub.cons rfl ?_)) (hQ _ _ ⟨false, rfl, by rw [b14] <;> rfl, rfl⟩)
                                    · clear H
                                      rcases Bool.eq_false_or_eq_true (found) with b15 | b15
                                      · refine WL.gyes rfl rfl (okb b15) rfl (Yld.pure tab_ok rfl) ?_
                                        refine WL.gyes rfl rfl (okb b15) rfl (Yld.pnenil Tryd.underlying85 rfl rfl) ?_
                                        refine WL.y rfl (Yld.pickT (okb b15) rfl) ?_
                                        exact WL.weaken (by repeat (first | exact Sub.nil | refine Sub.cons rfl ?_)) (hQ _ _ ⟨true, rfl, by first | (rw [b15] <;> rfl) | simp [b15], rfl⟩)
                                      · refine WL.gno rfl rfl (okb b15) rfl ?_
                                        refine WL.gno rfl rfl (okb b15) rfl ?_
                                        refine WL.y rfl (Yld.pickF (okb b15) rfl) ?_
                                        exact WL.weaken (by repeat (first | exact Sub.nil | refine Sub.cons rfl ?_)) (hQ _ _ ⟨false, rfl, by first | (rw [b15] <;> rfl) | simp [b15], rfl⟩)
                              · clear H
                                rcases Bool.eq_false_or_eq_true (decide (n ≤ (if (l.length : Int) < (put + (1 : Int)) then (l.length : Int) else put + (1 : Int)))) with b16 | b16
                                · refine WL.gyes rfl rfl (okb b16) rfl (Yld.pure tab_ok rfl) ?_
                                  refine WL.gyes rfl rfl (okb b16) rfl (Yld.pure tab_ok rfl) ?_
                                  refine WL.y rfl (Yld.pickT (okb b16) rfl) ?_
                                  exact WL.weaken (by repeat (first | exact Sub.nil | refine Sub.cons rfl ?_)) (hQ _ _ ⟨!found, rfl, by rw [b16] <;> rfl, rfl⟩)
                                · refine WL.gno rfl rfl (okb b16) rfl ?_
                                  refine WL.gno rfl rfl (okb b16) rfl ?_
                                  refine WL.y rfl (Yld.pickF (okb b16) rfl) ?_
                                  exact WL.weaken (by repeat (first | exact Sub.nil | refine Sub.cons rfl ?_)) (hQ _ _ ⟨false, rfl, by rw [b16] <;> rfl, rfl⟩)
                          · clear H
                            refine WL.gyes rfl rfl (rfl) rfl (Yld.pure tab_ok rfl) ?_
                            refine WL.gyes rfl rfl (rfl) rfl (Yld.errneq Tryd.underlying29 ht11912 rfl) ?_
                            refine WL.y rfl (Yld.pickF (rfl) rfl) ?_
                            exact WL.weaken (by repeat (first | exact Sub.nil | refine Sub.cons rfl ?_)) (hQ _ _ ⟨!decide (t11912 = Er.ok), rfl, rfl, rfl⟩)
                      · clear hJ2
                        refine WC.seq ?_
                        refine WC.region ?_
                        refine WL.y rfl (Yld.pure tab_ok rfl) ?_
                        refine WL.call rfl rfl (W_pdisk_Disk_Down k4 k3 H) ?_
                        rintro _ _ ⟨rfl, t107, rfl, H⟩
                        refine WL.y rfl (Yld.pure tab_ok rfl) ?_
                        refine WL.nil (WX.then_normal ?_)
                        refine WC.cond rfl (fun b17 => ?_) (fun b17 => ?_)
                        · replace H := H.1 (b17)
                          refine WC.seq ?_
                          refine WC.region ?_
                          refine WL.y rfl (Yld.pure tab_ok rfl) ?_
                          refine WL.call rfl rfl (W_pdisk_Disk_Arm k4 k3 dj10 H) ?_
                          rintro _ w34 ⟨hgl9, hs_t450_9, t450_33, t450_34, t450_35, t450_36, rfl, hB13, hM9, hi15, dj78, H⟩
                          have gr30 := gr_modL gr7 hgl9 (apC (Ge.le hge2 (size_le gr1)) hi4)
                          refine WL.nil (WX.then_normal ?_)
                          refine WC.region ?_
                          refine WL.y rfl (Yld.pure tab_ok rfl) ?_
                          refine WL.call rfl rfl (W_pdisk_Disk_List (GB.grown hG gr30) (size_le gr30) (apC (Ge.le hge2 (size_le gr1)) (InA.toGe hi15 (apC (Ge.le hge2 (size_le gr1)) hi4) (size_le gr7))) hS15 hM9 hB13 dj78 H) ?_
                          rintro _ w35 ⟨hgl10, t1120, A_t1120, c_t1120, v_t1121, t1121, hs_t450_10, t450_37, t450_38, t450_39, t450_40, rfl, ht1120, ht1121, hB14, hM10, hi16, dj79, dj80, dj81, H⟩
                          have hb1 := ht1120.ge'
                          have k105 := ht1120.base (fun g hg => Nat.le_trans (size_le gr30) (hb1 g hg))
                          have gr31 := gr_modL gr30 hgl10 (apC (Ge.le hge2 (size_le gr1)) (InA.toGe hi15 (apC (Ge.le hge2 (size_le gr1)) hi4) (size_le gr7)))
                          refine WL.nil ?_
                          exact WX.weaken (by repeat (first | exact Sub.nil | refine Sub.cons rfl ?_)) (hQ _ _ ⟨t450_37, hs_t450_10, t450_38, t450_39, t450_40, rfl, H, gr31, hB14, hM10, dj79, (InA.toGe hi16 (apC (Ge.le hge2 (size_le gr1)) (InA.toGe hi15 (apC (Ge.le hge2 (size_le gr1)) hi4) (size_le gr7))) (size_le gr30))⟩)
                        · replace H := H.2 (b17)
                          refine WC.skip ?_
                          exact WX.weaken (by repeat (first | exact Sub.nil | refine Sub.cons rfl ?_)) (hQ _ _ ⟨t4500, hs_t4500, t4501, t4502, t4503, rfl, H, gr7, k3, k4, dj10, hi4⟩)
                    · clear hJ1
                      refine WC.seq ?_
                      refine WC.region ?_
                      refine WL.y rfl (Yld.pure tab_ok rfl) ?_
                      refine WL.nil (WX.then_normal ?_)
                      refine WC.block ?_
                      obtain ⟨I4, mu4, h0_4, HR4⟩ := H
                      refine WC.loopF (fun n' L' w' => ∃ (safe2 : Int), ∃ (put2 : Int), ∃ (i3 : Int), ∃ (t5601 : List UInt8), ∃ (t5602 : List (List UInt8 × List UInt8)), ∃ (t45003 : List (List UInt8 × List UInt8 × Bool × List UInt8 × Bool × List (Int × List UInt8))), ∃ (hs_t45003 : List (List UInt8 × PH)), ∃ (t45013 : Int), ∃ (t45023 : Int), ∃ (t45033 : Bool), n' = mu4 safe2 put2 i3 t5601 t5602 t45003 t45013 t45023 t45033 ∧ L' = [(0, .slice A_l l.length c_l), (1, .int .i64 (t66 + (1 : Int))), (3, .int .i64 keep), (4, .int .i64 cut), (12, .pointer (some ⟨g_t450, 0, none⟩)), (14, .pointer (some ⟨g_t560, 0, none⟩)), (16, .int .i64 safe2), (17, .int .i64 put2), (18, .int .i64 i3)] ∧ I4 safe2 put2 i3 t5601 t5602 t45003 t45013 t45023 t45033 ∧ w.grownBy w' none ∧ Bl w' g_t450 124 [.map (some g_t450_files), .int .i64 t45013, .int .i64 t45023, .bool t45033] ∧ Bl w' g_t560 155 [.pointer (some ⟨g_t450, 0, none⟩), vs t5601, .map (some g_t560_l)] ∧ MapB vA okA vA w' g_t560_l t5602 ∧ PoolO pe128 w' g_t450_files hs_t45003 t45003 none ∧ Dj (some g_t450) (some g_t560) ∧ Dj (some g_t450) (some g_t560_l) ∧ AllP (Dj (some g_t450)) (FP g_t450_files hs_t45003 none) ∧ Dj (some g_t560) (some g_t560_l) ∧ AllP (Dj (some g_t560)) (FP g_t450_files hs_t45003 none) ∧ AllP (Dj (some g_t560_l)) (FP g_t450_files hs_t45003 none) ∧ AllP (fun p => Ge p w.heap.size) (FP g_t450_files hs_t45003 none)) _ _ ⟨(0 : Int), (0 : Int), (0 : Int), t560_p, t560_l, t450_9, hs_t450_3, t450_10, t450_11, t450_12, rfl, rfl, h0_4, gr6, hB3, k2, k1, hM3, dj7.symm, dj5.symm, dj9, dj3.symm, (InA.dj hi3 ht560.lt' (apC dj7 dj8)), (InA.dj hi3 ht560_l.lt' (apC dj5 dj6)), (InA.toGe hi3 (apC (Ge.le hge2 (size_le gr1)) (InA.toGe hi2 (apC (Ge.le hge2 (size_le gr1)) (fun p hp => Ge.le (hge1 p hp) (size_le gr1))) (size_le gr3))) (size_le gr5))⟩ (by repeat (first | exact Sub.nil | refine Sub.cons rfl ?_)) ?_
                      clear h0_4
                      rintro _ _ w36 ⟨safe2, put2, i3, t5601, t5602, t45003, hs_t45003, t45013, t45023, t45033, rfl, rfl, hI4, gr32, k106, k107, k108, k109, dj82, dj83, dj84, dj85, dj86, dj87, hi17⟩
                      have H := HR4 safe2 put2 i3 t5601 t5602 t45003 t45013 t45023 t45033 hI4
                      refine WC.seq ?_
                      refine WC.seq ?_
                      refine WC.region ?_
                      refine WL.y rfl (Yld.pure tab_ok rfl) ?_
                      refine WL.y rfl (Yld.pure tab_ok rfl) ?_
                      refine WL.y rfl (Yld.pure tab_ok rfl) ?_
                      refine WL.y rfl (Yld.pure tab_ok rfl) ?_
                      refine WL.nil (WX.then_normal ?_)
                      refine WC.cond rfl (fun b18 => ?_) (fun b18 => ?_)
                      · replace H := H.1 (of_decide_eq_true b18)
                        refine WC.skip (WX.then_normal ?_)
                        refine WC.seq ?_
                        obtain ⟨J7, H, hJ7⟩ := H
                        refine WC.midF (fun L' w' => ∃ (safe3 : Int), ∃ (t45004 : List (List UInt8 × List UInt8 × Bool × List UInt8 × Bool × List (Int × List UInt8))), ∃ (hs_t45004 : List (List UInt8 × PH)), ∃ (t45014 : Int), ∃ (t45024 : Int), ∃ (t45034 : Bool), ∃ (t56012 : List UInt8), ∃ (t56022 : List (List UInt8 × List UInt8)), L' = [(0, .slice A_l l.length c_l), (1, .int .i64 (t66 + (1 : Int))), (3, .int .i64 keep), (4, .int .i64 cut), (12, .pointer (some ⟨g_t450, 0, none⟩)), (14, .pointer (some ⟨g_t560, 0, none⟩)), (16, .int .i64 safe3), (17, .int .i64 (put2 + (1 : Int))), (18, .int .i64 i3)] ∧ J7 safe3 t45004 t45014 t45024 t45034 t56012 t56022 ∧ w.grownBy w' none ∧ Bl w' g_t450 124 [.map (some g_t450_files), .int .i64 t45014, .int .i64 t45024, .bool t45034] ∧ Bl w' g_t560 155 [.pointer (some ⟨g_t450, 0, none⟩), vs t56012, .map (some g_t560_l)] ∧ PoolO pe128 w' g_t450_files hs_t45004 t45004 none ∧ MapB vA okA vA w' g_t560_l t56022 ∧ Dj (some g_t450) (some g_t560) ∧ AllP (Dj (some g_t450)) (FP g_t450_files hs_t45004 none) ∧ Dj (some g_t450) (some g_t560_l) ∧ AllP (Dj (some g_t560)) (FP g_t450_files hs_t45004 none) ∧ Dj (some g_t560) (some g_t560_l) ∧ AllP (Dj (some g_t560_l)) (FP g_t450_files hs_t45004 none) ∧ AllP (fun p => Ge p w.heap.size) (FP g_t450_files hs_t45004 none)) ?_ (fun hQ1 => ?_)
                        · clear H
                          rintro _ w37 ⟨safe3, t45004, hs_t45004, t45014, t45024, t45034, t56012, t56022, rfl, H, gr33, k110, k111, k112, k113, dj88, dj89, dj90, dj91, dj92, dj93, hi18⟩
                          replace H := hJ7 safe3 t45004 t45014 t45024 t45034 t56012 t56022 H
                          refine WX.then_normal ?_
                          refine WC.region ?_
                          refine WL.y rfl (Yld.pure tab_ok rfl) ?_
                          obtain ⟨h14, H⟩ := H
                          refine WL.y rfl (Yld.add rfl rfl h14) ?_
                          refine WL.y rfl (Yld.pure tab_ok rfl) ?_
                          refine WL.nil ?_
                          exact WX.roundF _ ⟨safe3, put2 + (1 : Int), i3 + (1 : Int), t56012, t56022, t45004, hs_t45004, t45014, t45024, t45034, rfl, rfl, H.1, gr33, k110, k111, k113, k112, dj88, dj90, dj89, dj92, dj91, dj93, hi18⟩ (by repeat (first | exact Sub.nil | refine Sub.cons rfl ?_)) H.2
                        · clear hJ7
                          refine WC.block ?_
                          refine WC.seq ?_
                          refine WC.seq ?_
                          refine WC.region ?_
                          refine WL.y rfl (Yld.pure tab_ok rfl) ?_
                          refine WL.y rfl (Yld.pure tab_ok rfl) ?_
                          refine WL.y rfl (Yld.pure tab_ok rfl) ?_
                          obtain ⟨h15, H⟩ := H
                          refine WL.y rfl (Yld.iaddrW tab_ok (hl.grown gr32) rfl rfl rfl rfl h15.1 h15.2) ?_
                          refine WL.y rfl (Yld.iload 0 tab_ok (hl.grown gr32) rfl rfl (iltN h15 rfl)) ?_
                          refine WL.call rfl rfl (W_smithylaw25_name H) ?_
                          rintro _ _ ⟨rfl, t84, rfl, H⟩
                          refine WL.call rfl rfl (W_key_Source H) ?_
                          rintro _ w38 ⟨hg15, t85, rfl, H⟩
                          have gr34 := gr_trans gr32 hg15
                          have k114 := k106.g0 hg15
                          have k115 := k107.g0 hg15
                          have k116 := k108.g0 hg15
                          have k117 := k109.g0 hg15
                          refine WL.y rfl (Yld.pure tab_ok rfl) ?_
                          refine WL.call rfl rfl (W_smithylaw25_name H) ?_
                          rintro _ _ ⟨rfl, t87, rfl, H⟩
                          refine WL.call rfl rfl (W_key_Source H) ?_
                          rintro _ w39 ⟨hg16, t88, rfl, H⟩
                          have gr35 := gr_trans gr34 hg16
                          have k118 := k114.g0 hg16
                          have k119 := k115.g0 hg16
                          have k120 := k116.g0 hg16
                          have k121 := k117.g0 hg16
                          refine WL.call rfl rfl (W_pcache_Cache_Put (GB.grown hG gr35) (size_le gr35) (apC (Ge.le hge4 (size_le gr3)) (apC (Ge.le hge3 (size_le gr3)) (apC (Ge.le hge2 (size_le gr1)) hi17))) hS9 hS11 hS15 hS100 k121 k118 k120 k119 dj85 dj82.symm dj86 dj83.symm dj87 dj84 H) ?_
                          rintro v_t89 w40 ⟨hgl11, _, t89, t560_, t560_2, hs_t450_11, t450_41, t450_42, t450_43, t450_44, rfl, ht89, hB15, hM11, hB16, hM12, hi19, dj94, dj95, dj96, dj97, dj98, dj99, H⟩
                          have gr36 := gr_modL gr35 hgl11 (apC (Ge.le hge4 (size_le gr3)) (apC (Ge.le hge3 (size_le gr3)) (apC (Ge.le hge2 (size_le gr1)) hi17)))
                          refine WL.y rfl (Yld.errneq Tryd.underlying29 ht89 rfl) ?_
                          refine WL.nil (WX.then_normal ?_)
                          refine WC.cond rfl (fun b19 => ?_) (fun b19 => ?_)
                          · replace H := H.1 (nd_true b19)
                            refine WC.exit (WX.then_exit (WX.block_other rfl (WX.then_exit (WX.then_exit (WX.block_same ?_)))))
                            exact WX.weaken (by repeat (first | exact Sub.nil | refine Sub.cons rfl ?_)) (hQ _ _ ⟨safe2, put2, t450_41, hs_t450_11, t450_42, t450_43, t450_44, rfl, H, gr36, hB16, hM12, dj99, (InA.toGe hi19 (apC (Ge.le hge4 (size_le gr3)) (apC (Ge.le hge3 (size_le gr3)) (apC (Ge.le hge2 (size_le gr1)) hi17))) (size_le gr35))⟩)
                          · replace H := H.2 (nd_false b19)
                            refine WC.skip (WX.then_normal ?_)
                            refine WC.seq ?_
                            refine WC.region ?_
                            refine WL.y rfl (Yld.pure tab_ok rfl) ?_
                            obtain ⟨h16, H⟩ := H
                            refine WL.y rfl (Yld.add rfl rfl h16) ?_
                            refine WL.y rfl (Yld.pure tab_ok rfl) ?_
                            refine WL.nil (WX.then_normal ?_)
                            refine WC.seq ?_
                            refine WC.region ?_
                            refine WL.y rfl (Yld.pure tab_ok rfl) ?_
                            refine WL.y rfl (Yld.pure tab_ok rfl) ?_
                            obtain ⟨h17, H⟩ := H
                            refine WL.y rfl (Yld.rem rfl rfl h17.1 h17.2) ?_
                            refine WL.y rfl (Yld.pure tab_ok rfl) ?_
                            refine WL.nil (WX.then_normal ?_)
                            refine WC.cond rfl (fun b20 => ?_) (fun b20 => ?_)
                            · replace H := H.1 (of_decide_eq_true b20)
                              refine WC.seq ?_
                              refine WC.seq ?_
                              refine WC.region ?_
                              refine WL.y rfl (Yld.pure tab_ok rfl) ?_
                              refine WL.call rfl rfl (W_pcache_Cache_Sync (GB.grown hG gr36) (size_le gr36) (apC (Ge.le hge4 (size_le gr3)) (apC (Ge.le hge3 (size_le gr3)) (apC (Ge.le hge2 (size_le gr1)) (InA.toGe hi19 (apC (Ge.le hge4 (size_le gr3)) (apC (Ge.le hge3 (size_le gr3)) (apC (Ge.le hge2 (size_le gr1)) hi17))) (size_le gr35))))) hS11 hS15 hS100 hM12 hB16 hM11 hB15 dj94 dj95 dj96 dj97 dj98 dj99 H) ?_
                              rintro v_t98 w41 ⟨hgl12, _, t98, t560_3, t560_4, hs_t450_12, t450_45, t450_46, t450_47, t450_48, rfl, ht98, hB17, hM13, hB18, hM14, hi20, dj100, dj101, dj102, dj103, dj104, dj105, H⟩
                              have gr37 := gr_modL gr36 hgl12 (apC (Ge.le hge4 (size_le gr3)) (apC (Ge.le hge3 (size_le gr3)) (apC (Ge.le hge2 (size_le gr1)) (InA.toGe hi19 (apC (Ge.le hge4 (size_le gr3)) (apC (Ge.le hge3 (size_le gr3)) (apC (Ge.le hge2 (size_le gr1)) hi17))) (size_le gr35)))))
                              refine WL.y rfl (Yld.errneq Tryd.underlying29 ht98 rfl) ?_
                              refine WL.nil (WX.then_normal ?_)
                              refine WC.cond rfl (fun b21 => ?_) (fun b21 => ?_)
                              · replace H := H.1 (nd_true b21)
                                refine WC.exit (WX.then_exit (WX.block_other rfl (WX.then_exit (WX.then_exit (WX.block_same ?_)))))
                                exact WX.weaken (by repeat (first | exact Sub.nil | refine Sub.cons rfl ?_)) (hQ _ _ ⟨safe2, put2 + (1 : Int), t450_45, hs_t450_12, t450_46, t450_47, t450_48, rfl, H, gr37, hB18, hM14, dj105, (InA.toGe hi20 (apC (Ge.le hge4 (size_le gr3)) (apC (Ge.le hge3 (size_le gr3)) (apC (Ge.le hge2 (size_le gr1)) (InA.toGe hi19 (apC (Ge.le hge4 (size_le gr3)) (apC (Ge.le hge3 (size_le gr3)) (apC (Ge.le hge2 (size_le gr1)) hi17))) (size_le gr35))))) (size_le gr36))⟩)
                              · replace H := H.2 (nd_false b21)
                                refine WC.skip (WX.then_normal ?_)
                                refine WC.region ?_
                                refine WL.y rfl (Yld.pure tab_ok rfl) ?_
                                refine WL.y rfl (Yld.pure tab_ok rfl) ?_
                                refine WL.nil (WX.block_normal ?_)
                                exact WX.weaken (by repeat (first | exact Sub.nil | refine Sub.cons rfl ?_)) (hQ1 _ _ ⟨put2 + (1 : Int), t450_45, hs_t450_12, t450_46, t450_47, t450_48, t560_3, t560_4, rfl, H, gr37, hB18, hB17, hM14, hM13, dj101.symm, dj105, dj103.symm, dj102, dj100, dj104, (InA.toGe hi20 (apC (Ge.le hge4 (size_le gr3)) (apC (Ge.le hge3 (size_le gr3)) (apC (Ge.le hge2 (size_le gr1)) (InA.toGe hi19 (apC (Ge.le hge4 (size_le gr3)) (apC (Ge.le hge3 (size_le gr3)) (apC (Ge.le hge2 (size_le gr1)) hi17))) (size_le gr35))))) (size_le gr36))⟩)
                            · replace H := H.2 (of_decide_eq_false b20)
                              refine WC.skip (WX.block_normal ?_)
                              exact WX.weaken (by repeat (first | exact Sub.nil | refine Sub.cons rfl ?_)) (hQ1 _ _ ⟨safe2, t450_41, hs_t450_11, t450_42, t450_43, t450_44, t560_, t560_2, rfl, H, gr36, hB16, hB15, hM12, hM11, dj95.symm, dj99, dj97.symm, dj96, dj94, dj98, (InA.toGe hi19 (apC (Ge.le hge4 (size_le gr3)) (apC (Ge.le hge3 (size_le gr3)) (apC (Ge.le hge2 (size_le gr1)) hi17))) (size_le gr35))⟩)
                      · replace H := H.2 (of_decide_eq_false b18)
                        refine WC.exit (WX.then_exit (WX.then_exit (WX.block_same ?_)))
                        exact WX.weaken (by repeat (first | exact Sub.nil | refine Sub.cons rfl ?_)) (hQ _ _ ⟨safe2, put2, t45003, hs_t45003, t45013, t45023, t45033, rfl, H, gr32, k106, k109, dj84, hi17⟩)
                · clear H
                  refine WL.gyes rfl rfl (rfl) rfl (Yld.pure tab_ok rfl) ?_
                  refine WL.gyes rfl rfl (rfl) rfl (Yld.errneq Tryd.underlying29 ht5612 rfl) ?_
                  refine WL.y rfl (Yld.pickF (rfl) rfl) ?_
                  exact WL.weaken (by repeat (first | exact Sub.nil | refine Sub.cons rfl ?_)) (hQ _ _ ⟨!decide (t5612 = Er.ok), rfl, rfl, rfl⟩)
          · clear H
            refine WL.gyes rfl rfl (rfl) rfl (Yld.pure tab_ok rfl) ?_
            refine WL.gyes rfl rfl (rfl) rfl (Yld.errneq Tryd.underlying29 ht4512 rfl) ?_
            refine WL.y rfl (Yld.pickF (rfl) rfl) ?_
            exact WL.weaken (by repeat (first | exact Sub.nil | refine Sub.cons rfl ?_)) (hQ _ _ ⟨!decide (t4512 = Er.ok), rfl, rfl, rfl⟩)
    · clear H
      rcases Bool.eq_false_or_eq_true (decide ((40 : Int) < (l.length : Int))) with b22 | b22
      · refine WL.gno rfl rfl (okb b22) rfl ?_
        refine WL.gno rfl rfl (okb b22) rfl ?_
        refine WL.y rfl (Yld.pickT (okb b22) rfl) ?_
        exact WL.weaken (by repeat (first | exact Sub.nil | refine Sub.cons rfl ?_)) (hQ _ _ ⟨true, rfl, by rw [b22] <;> rfl, rfl⟩)
      · refine WL.gyes rfl rfl (okb b22) rfl (Yld.pure tab_ok rfl) ?_
        refine WL.gyes rfl rfl (okb b22) rfl (Yld.pure tab_ok rfl) ?_
        refine WL.y rfl (Yld.pickF (okb b22) rfl) ?_
        exact WL.weaken (by repeat (first | exact Sub.nil | refine Sub.cons rfl ?_)) (hQ _ _ ⟨!ok, rfl, by rw [b22] <;> rfl, rfl⟩)

end Go.Proofs.YtlonpmajnglmoaaDoor

 /- The chapter's digest is the program's: plain. -/
namespace Go.Proofs.YtlonpmajnglmoaaDoor
open Go Go.RowKit
end Go.Proofs.YtlonpmajnglmoaaDoor


 /- The digests of the chapter: plain. -/
namespace Go.Proofs.YtlonpmajnglmoaaDoor
open Go Go.RowKit
theorem hex_M {s : List UInt8} {K : List UInt8 → Prop} (hl : s.length = 32) (h : K (hexS s)) : M_smithyref1_Hex s K := by
  refine ⟨by omega, fun out i => 0 ≤ i ∧ i ≤ 32 ∧ out = hexS (s.take i.toNat), fun _ i => 32 - i.toNat, ⟨by omega, by omega, rfl⟩, fun out i ⟨a0, a1, a2⟩ => ⟨fun hlt => ?_, fun hge => ?_⟩⟩
  · have hs := shr_4 (s.getD i.toNat 0)
    have ha := and_15 (s.getD i.toNat 0)
    have ho : out.length ≤ 64 := by rw [a2, hexS_len, List.length_take]; omega
    refine ⟨by omega, by simp only [List.length_cons, List.length_nil]; omega, by omega, by simp only [List.length_cons, List.length_nil]; omega, by simp only [List.length_cons, List.length_nil]; omega, by simp only [In]; omega, ⟨by omega, by omega, ?_⟩, by dsimp only; omega⟩
    rw [show (i + 1).toNat = i.toNat + 1 by omega, hexS_take s i.toNat (by omega), ← a2]
    rfl
  · rw [a2, show i.toNat = 32 by omega, List.take_of_length_le (by omega)]
    exact h
theorem text_M {s : List UInt8} {K : List UInt8 → Prop} (hl : s.length = 32) (h : K (hexS s)) : M_sha_Text s K := by
  intro t ht he
  have : t = s := List.ext_getElem (by omega) fun i h1 h2 => by
    have := he i (by omega)
    simpa [List.getD, h1, h2] using this
  rw [this]; exact h
theorem sameSum_M {a b : List UInt8} {K : Bool → Prop} (ha : a.length = 32) (hb : b.length = 32) (h : K (decide (hexS a = hexS b))) : M_smithyref17_SameSum a b K := hex_M ha (hex_M hb h)
end Go.Proofs.YtlonpmajnglmoaaDoor


 namespace Go.Proofs.YtlonpmajnglmoaaDoor
open Go Go.RowKit
attribute [local irreducible] WL WC WX WQ WK Yld Eff Ef0 Fn
/-! a digest's digits are parsed as_ it -/
def pairV (x y : UInt8) : Option UInt8 := match digV x, digV y with
  | some a, some b => some (u8v (bits .or .u8 (shlV .u8 (a : Int) 4) (b : Int)))
  | _, _ => none
theorem pair_hex (b : UInt8) : pairV ((hexB b).getD 0 0) ((hexB b).getD 1 0) = some b := by
  have h : (List.range 256).all (fun n => pairV ((hexB (UInt8.ofNat n)).getD 0 0) ((hexB (UInt8.ofNat n)).getD 1 0) == some (UInt8.ofNat n)) = true := by kernel_rfl
  have := List.all_eq_true.mp h b.toNat (List.mem_range.mpr b.toNat_lt)
  have e : UInt8.ofNat b.toNat = b := UInt8.ofNat_toNat
  rw [e] at this
  simpa using this
theorem parN_step (s : List UInt8) (n : Nat) : parN s (n + 1) = match parN s n, pairV (s.getD (2 * n) 0) (s.getD (2 * n + 1) 0) with
    | some l, some x => some (l ++ [x])
    | _, _ => none := by
  rw [parN, pairV]
  cases parN s n <;> cases digV (s.getD (2 * n) 0) <;> cases digV (s.getD (2 * n + 1) 0) <;> rfl
theorem hexS_at : ∀ (l : List UInt8) (i : Nat), i < l.length → (hexS l).getD (2 * i) 0 = (hexB (l.getD i 0)).getD 0 0 ∧ (hexS l).getD (2 * i + 1) 0 = (hexB (l.getD i 0)).getD 1 0
  | [], i, h => by simp at h
  | b :: l, 0, _ => ⟨rfl, rfl⟩
  | b :: l, i + 1, h => by
    have := hexS_at l i (by simpa using h)
    have e1 : (hexS (b :: l)).getD (2 * (i + 1)) 0 = (hexS l).getD (2 * i) 0 := rfl
    have e2 : (hexS (b :: l)).getD (2 * (i + 1) + 1) 0 = (hexS l).getD (2 * i + 1) 0 := rfl
    rw [e1, e2]
    exact this
theorem parN_hex (l : List UInt8) : ∀ n, n ≤ l.length → parN (hexS l) n = some (l.take n)
  | 0, _ => rfl
  | n + 1, h => by
    have ih := parN_hex l n (by omega)
    have hp := hexS_at l n (by omega)
    rw [parN_step, ih, hp.1, hp.2, pair_hex]
    show some (l.take n ++ [l.getD n 0]) = _
    rw [List.take_succ_eq_append_getElem (by omega)]
    simp [List.getD, show n < l.length by omega]
theorem parS_hex (l : List UInt8) (h : l.length = 32) : parS (hexS l) = some l := by
  unfold parS
  rw [if_pos (by rw [hexS_len]; omega), parN_hex l 32 (by omega), List.take_of_length_le (by omega)]
/-- the state that has taken bytes in -/
def StB (w : World) (g : Nat) (b : List UInt8) : Prop := St w g (wrS h0s [] b).1 (wrS h0s [] b).2 (b.length : Int)
theorem StB.keep {w w' : World} {g : Nat} {b : List UInt8} {row : Option Nat} (h : StB w g b) (hg : w.grownBy w' row) (hr : row ≠ some g) (hr2 : ∀ q, row = some q → w.heap.size ≤ q) : StB w' g b := by
  obtain ⟨q1, A', c', q2, q3, q4⟩ := h
  refine ⟨q1, A', c', q2.keep hg hr, q3.keep' hg (fun hne q hq e => ?_), q4⟩
  have := q3.lt hne e
  have := hr2 q hq
  omega
theorem StB.grown {w w' : World} {g : Nat} {b : List UInt8} (h : StB w g b) (hg : w.grownBy w' none) : StB w' g b := h.keep hg (by simp) (by simp)
end Go.Proofs.YtlonpmajnglmoaaDoor

 /- Paths, plainly: cut at slashes, fair parts, what is valid. -/
namespace Go.Proofs.YtlonpmajnglmoaaDoor
open Go Go.RowKit
def cuts : List UInt8 → List (List UInt8)
  | [] => [[]]
  | c :: s => if c = 47 then [] :: cuts s else match cuts s with
    | [] => [[c]]
    | h :: t => (c :: h) :: t
theorem cuts_ne (s : List UInt8) : cuts s ≠ [] := by
  cases s with
  | nil => simp [cuts]
  | cons c s =>
    unfold cuts
    split
    · simp
    · split <;> simp
theorem split_cuts : ∀ s : List UInt8, Lib.split s [47] = cuts s
  | [] => by simp [Lib.split, Lib.count_miss, Lib.index, Lib.splitK, cuts]
  | c :: s => by
    have ih := split_cuts s
    unfold Lib.split at ih ⊢
    by_cases hc : c = 47
    · subst hc
      have hix : Lib.index (47 :: s) [47] = 0 := by rw [Lib.index]; simp [List.isPrefixOf]
      rw [Lib.count_cons_eq, Nat.add_comm, Lib.splitK, if_neg (by rw [hix]; decide), hix]
      simp only [cuts, if_true]
      rw [← ih]
      simp
    · have hp : ([47] : List UInt8).isPrefixOf (c :: s) = false := by simp [List.isPrefixOf, Ne.symm hc]
      have hix : Lib.index (c :: s) [47] = if Lib.index s [47] == -1 then -1 else Lib.index s [47] + 1 := by rw [Lib.index, hp]; simp
      rw [Lib.count_cons_ne c 47 s hc]
      simp only [cuts, if_neg hc]
      rw [← ih]
      cases hk : Lib.count s [47] with
      | zero => simp [Lib.splitK]
      | succ k =>
        have hne : Lib.index s [47] ≠ -1 := fun e => by rw [Lib.count_miss e] at hk; cases hk
        have hge := Lib.index_ge s [47]
        obtain ⟨j, hj⟩ : ∃ j : Nat, Lib.index s [47] = j := ⟨(Lib.index s [47]).toNat, by omega⟩
        have hix' : Lib.index (c :: s) [47] = ((j + 1 : Nat) : Int) := by rw [hix, if_neg (fun e => hne (beq_iff_eq.1 e)), hj]; omega
        rw [Lib.splitK, Lib.splitK, if_neg (fun e => hne (beq_iff_eq.1 e)), if_neg (by rw [hix']; simp; omega), hix', hj]
        simp
theorem splitL_cuts (s : List UInt8) : splitL [47] s = cuts s := split_cuts s
theorem cuts_length (s : List UInt8) : (cuts s).length ≤ s.length + 1 := by
  induction s with
  | nil => simp [cuts]
  | cons c s ih =>
    unfold cuts
    split
    · simp; omega
    · split
      · simp
      · rename_i h t e; rw [e] at ih; simp at ih ⊢; omega
theorem split_M {s : List UInt8} {K : List (List UInt8) → Prop} (hs : s.length ≤ 4000000000) (h : K (cuts s)) : M_strings_Split s [47] K :=
  ⟨by omega, by simp, by rw [splitL_cuts]; exact h⟩
/-- a byte that may be in a part -/
def letB (c : UInt8) : Bool := (((decide (48 ≤ c.toNat) && decide (c.toNat ≤ 57)) || (decide (65 ≤ c.toNat) && decide (c.toNat ≤ 90))) || (decide (97 ≤ c.toNat) && decide (c.toNat ≤ 122))) || ([33, 35, 37, 43, 44, 45, 46, 61, 64, 95, 126] : List UInt8).contains c
theorem indexByte_contains (l : List UInt8) (c : UInt8) : decide (0 ≤ Lib.indexByte l c) = l.contains c := by
  induction l with
  | nil => simp [Lib.indexByte]
  | cons b l ih =>
    unfold Lib.indexByte
    by_cases h : b = c
    · subst h; simp
    · have hge := Lib.indexByte_ge l c
      rw [if_neg (by simpa using h)]
      have hc : (b :: l).contains c = l.contains c := by simp [Ne.symm h]
      rw [hc, ← ih]
      by_cases h1 : Lib.indexByte l c = -1
      · rw [if_pos (by simpa using h1), h1]
      · rw [if_neg (by simpa using h1), decide_eq_decide]; omega
theorem letter_M {c : UInt8} {K : Bool → Prop} (h : K (letB c)) : M_path_letter (c.toNat : Int) K := by
  have e : ((((decide ((48 : Int) ≤ (c.toNat : Int))) && (decide ((c.toNat : Int) ≤ (57 : Int)))) || ((decide ((65 : Int) ≤ (c.toNat : Int))) && (decide ((c.toNat : Int) ≤ (90 : Int))))) || ((decide ((97 : Int) ≤ (c.toNat : Int))) && (decide ((c.toNat : Int) ≤ (122 : Int))))) = (((decide (48 ≤ c.toNat) && decide (c.toNat ≤ 57)) || (decide (65 ≤ c.toNat) && decide (c.toNat ≤ 90))) || (decide (97 ≤ c.toNat) && decide (c.toNat ≤ 122))) := by
    have d : ∀ a b : Nat, decide ((a : Int) ≤ (b : Int)) = decide (a ≤ b) := fun a b => by rw [decide_eq_decide]; omega
    have d1 : decide ((48 : Int) ≤ (c.toNat : Int)) = decide (48 ≤ c.toNat) := d 48 c.toNat
    have d2 : decide ((c.toNat : Int) ≤ (57 : Int)) = decide (c.toNat ≤ 57) := d c.toNat 57
    have d3 : decide ((65 : Int) ≤ (c.toNat : Int)) = decide (65 ≤ c.toNat) := d 65 c.toNat
    have d4 : decide ((c.toNat : Int) ≤ (90 : Int)) = decide (c.toNat ≤ 90) := d c.toNat 90
    have d5 : decide ((97 : Int) ≤ (c.toNat : Int)) = decide (97 ≤ c.toNat) := d 97 c.toNat
    have d6 : decide ((c.toNat : Int) ≤ (122 : Int)) = decide (c.toNat ≤ 122) := d c.toNat 122
    rw [d1, d2, d3, d4, d5, d6]
  unfold M_path_letter
  rw [e]
  unfold letB at h
  refine ⟨fun h1 => ?_, fun h1 => ?_⟩
  · rw [h1] at h; exact h
  · rw [h1, Bool.false_or] at h
    unfold M_strings_IndexByte
    rw [show ((c.toNat : Int).toNat.toUInt8) = c by simp]
    show K (decide (0 ≤ Lib.indexByte _ _))
    rw [indexByte_contains]
    exact h
def dotsB (s : List UInt8) : Bool := (decide (s = []) || decide (s = [46])) || decide (s = [46, 46])
def fairB (s : List UInt8) : Bool := s.all letB && !dotsB s
theorem take_all_succ {p : UInt8 → Bool} {s : List UInt8} {k : Nat} (h : (s.take k).all p = true) (hk : k < s.length) (hp : p (s.getD k 0) = true) : (s.take (k + 1)).all p = true := by
  rw [List.take_succ_eq_append_getElem hk, List.all_append, h]
  simpa [List.getD, hk] using hp
theorem fair_M {s : List UInt8} {K : Bool → Prop} (hs : s.length ≤ 4000000000) (h : K (fairB s)) : M_path_fair s K := by
  unfold M_path_fair
  refine ⟨fun i => ∃ k : Nat, i = k ∧ k ≤ s.length ∧ (s.take k).all letB = true, fun i => (s.length - i.toNat), ⟨0, rfl, by omega, by simp⟩, ?_⟩
  rintro _ ⟨k, rfl, hk, hall⟩
  refine ⟨fun hlt => ⟨by omega, letter_M ?_⟩, fun hge => ?_⟩
  · have hk' : k < s.length := by omega
    rw [Int.toNat_natCast]
    cases hl : letB (s.getD k 0) with
    | false =>
      refine ⟨fun _ => ?_, fun h1 => by simp at h1⟩
      have : s.all letB = false := by
        rw [List.all_eq_false]
        exact ⟨s.getD k 0, by simp [List.getD, hk'], by rw [hl]; simp⟩
      unfold fairB at h
      rw [this] at h
      exact h
    | true => exact ⟨fun h1 => by simp at h1, fun _ => ⟨by simp only [In]; omega, ⟨k + 1, by omega, by omega, take_all_succ hall hk' hl⟩, by dsimp only; omega⟩⟩
  · obtain rfl : k = s.length := by omega
    rw [List.take_length] at hall
    unfold fairB at h
    rw [hall, Bool.true_and] at h
    exact h
def validB (p : List UInt8) : Bool := decide (p.length ≤ 200) && (cuts p).all fairB
theorem cuts_part {s x : List UInt8} (h : x ∈ cuts s) : x.length ≤ s.length := by
  induction s generalizing x with
  | nil => simp [cuts] at h; subst h; simp
  | cons c s ih =>
    unfold cuts at h
    split at h
    · rcases List.mem_cons.1 h with rfl | h
      · simp
      · have := ih h; simp; omega
    · split at h
      · rename_i e; exact absurd e (cuts_ne s)
      · rename_i y t e
        rcases List.mem_cons.1 h with rfl | h
        · have := ih (x := y) (by rw [e]; simp); simp; omega
        · have := ih (x := x) (by rw [e]; simp [h]); simp; omega
theorem getD_mem {α : Type} {l : List α} {k : Nat} {d : α} (h : k < l.length) : l.getD k d ∈ l := by
  simp [List.getD, h]
theorem valid_M {p : List UInt8} {K : Bool → Prop} (hp : p.length ≤ 4000000000) (h : K (validB p)) : M_path_Valid p K := by
  unfold M_path_Valid
  unfold validB at h
  refine ⟨fun h1 => ?_, fun h1 => split_M hp ?_⟩
  · rw [decide_eq_false (by omega : ¬ p.length ≤ 200)] at h; exact h
  rw [decide_eq_true (by omega : p.length ≤ 200), Bool.true_and] at h
  refine ⟨fun i => ∃ k : Nat, i = k ∧ k ≤ (cuts p).length ∧ ((cuts p).take k).all fairB = true, fun i => ((cuts p).length - i.toNat), ⟨0, rfl, by omega, by simp⟩, ?_⟩
  have hcl := cuts_length p
  rintro _ ⟨k, rfl, hk, hall⟩
  refine ⟨fun hlt => ⟨by omega, ?_⟩, fun hge => ?_⟩
  · have hk' : k < (cuts p).length := by omega
    rw [Int.toNat_natCast]
    have hm : (cuts p).getD k [] ∈ cuts p := getD_mem hk'
    have hx := cuts_part hm
    refine fair_M (by omega) ?_
    cases hl : fairB ((cuts p).getD k []) with
    | false =>
      refine ⟨fun _ => ?_, fun h1 => by simp at h1⟩
      have : (cuts p).all fairB = false := by
        rw [List.all_eq_false]
        exact ⟨_, hm, by rw [hl]; simp⟩
      rw [this] at h
      exact h
    | true =>
      refine ⟨fun h1 => by simp at h1, fun _ => ⟨by simp only [In]; omega, ⟨k + 1, by omega, by omega, ?_⟩, by dsimp only; omega⟩⟩
      rw [List.take_succ_eq_append_getElem hk', List.all_append, hall]
      simpa [List.getD, hk'] using hl
  · obtain rfl : k = (cuts p).length := by omega
    rw [List.take_length] at hall
    rw [hall] at h
    exact h
end Go.Proofs.YtlonpmajnglmoaaDoor


 /- Patterns, plainly: one table for bytes and for parts. -/
namespace Go.Proofs.YtlonpmajnglmoaaDoor
open Go Go.RowKit
section
variable (star : Nat → Bool) (eq : Nat → Nat → Bool) (i j : Nat)
end
def bt (p : List UInt8) (i : Nat) : UInt8 := p.getD i 0
def RowIs (d : Nat → Bool) (n k : Nat) (xs : List Bool) : Prop := xs.length = n + 1 ∧ ∀ j, j < k → xs.getD j false = d j
theorem getD_set {xs : List Bool} {a j : Nat} {v : Bool} (h : a < xs.length) : (xs.set a v).getD j false = if j = a then v else xs.getD j false := by
  by_cases e : j = a
  · subst e; simp [List.getD, h]
  · simp [List.getD, List.getElem?_set, Ne.symm e, e]
theorem RowIs.next {d : Nat → Bool} {n k : Nat} {xs : List Bool} {v : Bool} (h : RowIs d n k xs) (hk : k ≤ n) (hv : v = d k) : RowIs d n (k + 1) (xs.set k v) :=
  ⟨by rw [List.length_set]; exact h.1, fun j hj => by
    rw [getD_set (by rw [h.1]; omega)]
    split
    · rename_i e; rw [e]; exact hv
    · exact h.2 j (by omega)⟩
end Go.Proofs.YtlonpmajnglmoaaDoor


 /- Paths, plainly: clean, match. -/
namespace Go.Proofs.YtlonpmajnglmoaaDoor
open Go Go.RowKit
/-- Clean's loop -/
def cl (l : List (List UInt8)) : List (List UInt8) → Option (List (List UInt8))
  | [] => some l
  | x :: r => if decide (x = []) || decide (x = [46]) then cl l r else if decide (x = [46, 46]) && decide (0 < l.length) then cl (l.take (l.length - 1)) r else if fairB x then cl (l ++ [x]) r else none
end Go.Proofs.YtlonpmajnglmoaaDoor


 /- Texts in order, each once: plain, no program. -/
namespace Go.Proofs.YtlonpmajnglmoaaDoor
open Go
abbrev Bs := List UInt8
def sortB (l : List Bs) : List Bs := l.mergeSort fun x y => decide (x ≤ y)
theorem sortB_le (l : List Bs) : (sortB l).Pairwise (· ≤ ·) := by
  have h := List.pairwise_mergeSort (le := fun (x y : Bs) => decide (x ≤ y)) (fun a b c h k => by
    simp only [decide_eq_true_eq] at h k ⊢
    exact List.le_trans h k) (fun a b => by
    simp only [Bool.or_eq_true, decide_eq_true_eq]
    exact List.le_total a b) l
  exact h.imp fun h => by simpa using h
theorem sortB_mem (l : List Bs) (x : Bs) : x ∈ sortB l ↔ x ∈ l := (List.mergeSort_perm l _).mem_iff
end Go.Proofs.YtlonpmajnglmoaaDoor


 /- Lines, plainly; sorting, plainly. -/
namespace Go.Proofs.YtlonpmajnglmoaaDoor
open Go Go.RowKit
/-! sorting -/
theorem sorted_uniq : ∀ {a b : List Bs}, a.Pairwise (· ≤ ·) → b.Pairwise (· ≤ ·) → a.Perm b → a = b
  | [], b, _, _, h => h.nil_eq.symm ▸ rfl
  | x :: a, [], _, _, h => absurd h.eq_nil (by simp)
  | x :: a, y :: b, ha, hb, h => by
    have ha' := List.pairwise_cons.1 ha
    have hb' := List.pairwise_cons.1 hb
    have h1 : y ≤ x := by
      rcases List.mem_cons.1 (h.mem_iff.1 (List.mem_cons_self (a := x) (l := a))) with e | e
      · rw [e]; exact List.le_refl _
      · exact hb'.1 x e
    have h2 : x ≤ y := by
      rcases List.mem_cons.1 (h.mem_iff.2 (List.mem_cons_self (a := y) (l := b))) with e | e
      · rw [e]; exact List.le_refl _
      · exact ha'.1 y e
    obtain rfl : x = y := List.le_antisymm h2 h1
    rw [sorted_uniq ha'.2 hb'.2 h.cons_inv]
theorem sortB_perm (l : List Bs) : (sortB l).Perm l := List.mergeSort_perm l _
theorem sortB_of {a l : List Bs} (h : a.Pairwise (· ≤ ·)) (k : a.Perm l) : a = sortB l := sorted_uniq h (sortB_le l) (k.trans (sortB_perm l).symm)
theorem sortB_congr {a b : List Bs} (h : a.Perm b) : sortB a = sortB b := sortB_of (sortB_le a) ((sortB_perm a).trans h)
end Go.Proofs.YtlonpmajnglmoaaDoor


 /- smithysee.Is, plainly. -/
namespace Go.Proofs.YtlonpmajnglmoaaDoor
open Go Go.RowKit
end Go.Proofs.YtlonpmajnglmoaaDoor


 /- A disk, plainly: what its calls come to. -/
namespace Go.Proofs.YtlonpmajnglmoaaDoor
open Go Go.RowKit
abbrev DF := List (List UInt8 × Fil)
def fz : Fil := ([], false, [], false, [])
/-- a file's record, or the empty one -/
def fil (fs : DF) (p : List UInt8) : Fil := (mget fs p).getD fz
theorem fil_put (fs : DF) (p q : List UInt8) (x : Fil) : fil (mput fs p x) q = if p = q then x else fil fs q := by
  unfold fil
  rw [mget_mput]
  split <;> rfl
theorem mput_mput {κ ν : Type} [DecidableEq κ] (k : κ) (v v' : ν) : ∀ m : List (κ × ν), mput (mput m k v) k v' = mput m k v'
  | [] => by simp [mput]
  | p :: m => by
    by_cases h : p.1 = k
    · simp [mput, h]
    · simp [mput, h, mput_mput k v v' m]
theorem eraseIdx_perm {α : Type} : ∀ (l : List α) (i : Nat) (h : i < l.length), l.Perm (l[i] :: l.eraseIdx i)
  | [], _, h => by simp at h
  | x :: l, 0, _ => List.Perm.refl _
  | x :: l, i + 1, h => ((eraseIdx_perm l i (by simpa using h)).cons x).trans (List.Perm.swap _ _ _)
def thereB (fs : DF) (p : List UInt8) : Bool := (fil fs p).2.1
theorem there_eq (fs : DF) (p : List UInt8) : ((mget fs p).isSome && ((mget fs p).getD fz).2.1) = thereB fs p := by
  unfold thereB fil
  cases mget fs p <;> rfl
theorem there_some {fs : DF} {p : List UInt8} (h : thereB fs p = true) : (mget fs p).isSome = true := by
  unfold thereB fil at h
  cases e : mget fs p with
  | none => rw [e] at h; cases h
  | some x => rfl
/-- a call is counted: the error, and what the counters are then -/
def dcall (ops left : Int) (down : Bool) : Er × Int × Int × Bool :=
  if down then (.e 15, ops, left, true) else if 0 < left then (if left = 1 then (.e 15, ops + 1, 0, true) else (.ok, ops + 1, left - 1, false)) else (.ok, ops + 1, left, false)
theorem call_M {fs : DF} {ops left : Int} {down : Bool} {K : Er → DF → Int → Int → Bool → Prop} (h0 : 0 ≤ ops) (h1 : ops ≤ 1000000000) (hl : left ≤ 1000000000) (h : K (dcall ops left down).1 fs (dcall ops left down).2.1 (dcall ops left down).2.2.1 (dcall ops left down).2.2.2) : M_pdisk_Disk_call fs ops left down K := by
  refine ⟨fun hd => ?_, fun hd => ⟨by simp only [In]; omega, fun d => d = (if 0 < left then left - 1 else left) ∧ ¬ (0 < left ∧ left = 1), ⟨fun hp => ⟨by simp only [In]; omega, fun h1' => ?_, fun hne => ?_⟩, fun hp => ?_⟩, fun d2 ⟨e, hn⟩ => ?_⟩⟩
  · subst hd; simpa [dcall] using h
  · have e : left = 1 := by omega
    subst hd; subst e; simpa [dcall] using h
  · exact ⟨by rw [if_pos hp], by omega⟩
  · exact ⟨by rw [if_neg hp], by omega⟩
  · subst hd
    subst e
    unfold dcall at h
    by_cases hp : 0 < left
    · have hne : left ≠ 1 := by omega
      simpa [hp, hne] using h
    · simpa [hp] using h
theorem dthere_M {fs : DF} {ops left : Int} {down : Bool} {p : List UInt8} {K : Bool → Prop} (hp : p.length ≤ maxLen) (h : K (thereB fs p)) : M_pdisk_Disk_there fs ops left down p K := by
  refine ⟨hp, fun _ => hp, fun h => h, ?_⟩
  rw [show (([], false, [], false, []) : Fil) = fz from rfl, there_eq]
  exact h
theorem known_M {fs : DF} {ops left : Int} {down : Bool} {p : List UInt8} {K : DF → Int → Int → Bool → Prop} (hp : p.length ≤ maxLen) (hf : fs.length < maxLen) (h : ∀ fs', (∀ x, mput fs' p x = mput fs p x) → (mget fs' p).isSome = true → fil fs' p = fil fs p → K fs' ops left down) : M_pdisk_Disk_known fs ops left down p K := by
  refine ⟨fun f => (∀ x, mput f p x = mput fs p x) ∧ (mget f p).isSome = true ∧ fil f p = fil fs p, ⟨hp, fun hn => ⟨⟨hp, hf⟩, fun x => mput_mput _ _ _ _, ?_, ?_⟩, fun hn => ⟨fun _ => rfl, isSome_of hn, rfl⟩⟩, fun d ⟨h1, h2, h3⟩ => ⟨hp, h d h1 h2 h3⟩⟩
  · rw [mget_same]; rfl
  · rw [fil_put, if_pos rfl]
    unfold fil
    rw [Option.isNone_iff_eq_none.1 hn]; rfl
/-- the paths of the files that are there -/
def pathsP (fs : DF) : List (List UInt8) := sortB ((fs.map (·.1)).filter fun k => thereB fs k)
theorem paths_M {fs : DF} {ops left : Int} {down : Bool} {K : List (List UInt8) → Prop} (hf : fs.length ≤ 1000000) (h : K (pathsP fs)) : M_pdisk_Disk_paths fs ops left down K := by
  refine ⟨fun l todo => (l ++ todo.filter fun k => thereB fs k).Perm ((fs.map (·.1)).filter fun k => thereB fs k) ∧ l.length + todo.length ≤ fs.length ∧ ∀ k ∈ todo, k ∈ fs.map (·.1), fun _ todo => todo.length, ⟨by simp, by simp, fun k hk => hk⟩, fun l todo ⟨a0, a1, a2⟩ => ⟨fun he => ?_, fun ix key hq => ?_⟩⟩
  · subst he
    refine ⟨by simp only [List.length_nil] at a1; omega, ?_⟩
    have := sortB_congr (by simpa using a0 : l.Perm _)
    unfold sortB at this
    rw [this]
    exact h
  · obtain ⟨hi, rfl⟩ := List.getElem?_eq_some_iff.1 hq
    have hmem := a2 _ (List.getElem_mem hi)
    have hp : todo.Perm (todo[ix] :: todo.eraseIdx ix) := eraseIdx_perm todo ix hi
    have hlen : (todo.eraseIdx ix).length + 1 = todo.length := by rw [List.length_eraseIdx_of_lt hi]; omega
    have hsome : (mget fs todo[ix]).isSome = true := by
      obtain ⟨p, hp, e⟩ := List.mem_map.1 hmem
      cases hm : mget fs todo[ix] with
      | some x => rfl
      | none => exact absurd e (mget_none.1 hm p hp)
    refine ⟨hsome, fun ht => ⟨by simp; omega, ⟨?_, by simp; omega, fun k hk => a2 k (List.mem_of_mem_eraseIdx hk)⟩, by (try dsimp only); omega⟩, fun ht => ⟨⟨?_, by omega, fun k hk => a2 k (List.mem_of_mem_eraseIdx hk)⟩, by (try dsimp only); omega⟩⟩
    · have ht' : thereB fs todo[ix] = true := ht
      refine List.Perm.trans ?_ a0
      rw [List.append_assoc]
      refine List.Perm.append_left l ?_
      refine List.Perm.trans ?_ (hp.filter _).symm
      rw [List.filter_cons, if_pos ht']
      rfl
    · have ht' : thereB fs todo[ix] = false := ht
      refine List.Perm.trans (List.Perm.append_left l ?_) a0
      refine List.Perm.trans ?_ (hp.filter _).symm
      rw [List.filter_cons, if_neg (by rw [ht']; simp)]
theorem count_M {fs : DF} {ops left : Int} {down : Bool} {K : Int → Prop} (hf : fs.length ≤ 1000000) (h : K ((pathsP fs).length : Int)) : M_pdisk_Disk_count fs ops left down K := paths_M hf h
theorem pathsP_len (fs : DF) : (pathsP fs).length ≤ fs.length := by
  unfold pathsP sortB
  rw [List.length_mergeSort]
  exact Nat.le_trans (List.length_filter_le _ _) (by simp)
theorem dread_M {fs : DF} {ops left : Int} {down : Bool} {p : List UInt8} {K : List UInt8 → Bool → Er → DF → Int → Int → Bool → Prop} (hp : p.length ≤ maxLen) (h0 : 0 ≤ ops) (h1 : ops ≤ 1000000000) (hl : left ≤ 1000000000)
    (h : ∀ o l d, (∀ e, dcall ops left down = (e, o, l, d) → e ≠ .ok → K [] false e fs o l d) ∧ (dcall ops left down = (.ok, o, l, d) → thereB fs p = true → K (fil fs p).1 true .ok fs o l d) ∧ (dcall ops left down = (.ok, o, l, d) → thereB fs p = false → K [] false .ok fs o l d)) : M_pdisk_Disk_Read fs ops left down p K := by
  refine call_M h0 h1 hl ?_
  rcases hc : dcall ops left down with ⟨e, o, l, d⟩
  obtain ⟨k1, k2, k3⟩ := h o l d
  by_cases he : e = .ok
  · subst he
    refine ⟨fun b => b = !thereB fs p, ⟨fun hn => by simp at hn, fun _ => dthere_M hp rfl⟩, fun q hq => ⟨fun ht => k3 hc (by rw [hq] at ht; simpa using ht), fun hf => ?_⟩⟩
    have ht : thereB fs p = true := by rw [hq] at hf; simpa using hf
    exact ⟨hp, there_some ht, k2 hc ht⟩
  · refine ⟨fun b => b = true, ⟨fun _ => rfl, fun hn => absurd (by simpa using hn) he⟩, fun q hq => ⟨fun _ => k1 e hc he, fun hf => (by rw [hq] at hf; cases hf)⟩⟩
/-- what laying a text comes to, when the power is there -/
def dlay (fs : DF) (p text : List UInt8) (kind : Int) : Er × DF :=
  let t := if kind = 1 ∧ thereB fs p = true then (fil fs p).1 ++ text else text
  if validB p = false ∨ 65536 < t.length then (.e 11, fs)
  else if thereB fs p = false ∧ 2000 ≤ (pathsP fs).length then (.e 9, fs)
  else (.ok, mput fs p (t, true, (fil fs p).2.2.1, (fil fs p).2.2.2.1, (fil fs p).2.2.2.2 ++ [(kind, text)]))
theorem put_M {fs : DF} {ops left : Int} {down : Bool} {p text : List UInt8} {kind : Int} {K : Er → DF → Int → Int → Bool → Prop} (hp : p.length ≤ 1000000) (h0 : 0 ≤ ops) (h1 : ops ≤ 1000000000) (hl : left ≤ 1000000000) (hf : fs.length ≤ 1000000) (ht : text.length ≤ 1000000) (hx : (fil fs p).1.length ≤ 1000000) (hs : (fil fs p).2.2.2.2.length ≤ 1000000)
    (h : ∀ o l d, (∀ e, dcall ops left down = (e, o, l, d) → e ≠ .ok → K e fs o l d) ∧ (dcall ops left down = (.ok, o, l, d) → K (dlay fs p text kind).1 (dlay fs p text kind).2 o l d)) : M_pdisk_Disk_put fs ops left down p text kind text K := by
  refine call_M h0 h1 hl ?_
  rcases hc : dcall ops left down with ⟨e, o, l, d⟩
  obtain ⟨k1, k2⟩ := h o l d
  refine ⟨fun hne => k1 e hc hne, fun he => ?_⟩
  dsimp only at he
  subst he
  have k2 := k2 hc
  have hpm : p.length ≤ maxLen := by unfold maxLen; omega
  refine ⟨fun t => t = (if kind = 1 ∧ thereB fs p = true then (fil fs p).1 ++ text else text), ⟨fun b => b = (decide (kind = 1) && thereB fs p), ⟨fun hk => dthere_M hpm (by rw [hk]; rfl), fun hk => by rw [hk]; rfl⟩, fun q hq => ⟨fun hq1 => ?_, fun hq0 => ?_⟩⟩, fun t hte => ?_⟩
  · rw [hq, Bool.and_eq_true, decide_eq_true_eq] at hq1
    refine ⟨hpm, there_some hq1.2, ?_, ?_⟩
    · show (fil fs p).1.length + _ ≤ _; omega
    · rw [if_pos hq1]; rfl
  · rw [hq] at hq0
    have : ¬ (kind = 1 ∧ thereB fs p = true) := fun ⟨a, b⟩ => by rw [b, decide_eq_true a] at hq0; cases hq0
    rw [if_neg this]
  · have htl : t.length ≤ 2000000 := by
      rw [hte]; split
      · rw [List.length_append]; omega
      · omega
    unfold dlay at k2
    simp only [← hte] at k2
    refine valid_M (by omega) ⟨fun hb => ?_, fun hb => dthere_M hpm ?_⟩
    · rw [Bool.or_eq_true, Bool.not_eq_true', decide_eq_true_eq] at hb
      have : validB p = false ∨ 65536 < t.length := hb.imp id fun h => by omega
      rw [if_pos this] at k2
      exact k2
    · rw [Bool.or_eq_false_iff, Bool.not_eq_false', decide_eq_false_iff_not] at hb
      have : ¬ (validB p = false ∨ 65536 < t.length) := fun h => h.elim (fun h => by rw [hb.1] at h; cases h) (fun h => by omega)
      rw [if_neg this] at k2
      refine ⟨fun b => b = (!thereB fs p && decide (2000 ≤ (pathsP fs).length)), ⟨fun hn => count_M hf ?_, fun hn => by rw [hn]; rfl⟩, fun q hq => ⟨fun hq1 => ?_, fun hq0 => ?_⟩⟩
      · rw [hn, Bool.true_and]
        apply Bool.eq_iff_iff.2
        simp only [decide_eq_true_eq]; omega
      · rw [hq, Bool.and_eq_true, Bool.not_eq_true', decide_eq_true_eq] at hq1
        rw [if_pos hq1] at k2
        exact k2
      · rw [hq] at hq0
        have : ¬ (thereB fs p = false ∧ 2000 ≤ (pathsP fs).length) := fun ⟨a, b⟩ => by rw [a, decide_eq_true b] at hq0; cases hq0
        rw [if_neg this] at k2
        refine known_M hpm (by unfold maxLen; omega) fun fs' g1 g2 g3 => ⟨g2, ?_, ?_⟩
        · have : ((mget fs' p).getD ([], false, [], false, [])).2.2.2.2 = (fil fs p).2.2.2.2 := by rw [← g3]; rfl
          rw [this]; simp; omega
        · have e : (mget fs' p).getD ([], false, [], false, []) = fil fs p := g3
          rw [e, g1]
          exact k2
def dsync (fs : DF) (p : List UInt8) : Er × DF :=
  if validB p = false then (.e 11, fs) else (.ok, if (mget fs p).isSome = true then mput fs p ((fil fs p).1, (fil fs p).2.1, (fil fs p).1, (fil fs p).2.1, []) else fs)
theorem sync_M {fs : DF} {ops left : Int} {down : Bool} {p : List UInt8} {K : Er → DF → Int → Int → Bool → Prop} (hp : p.length ≤ 1000000) (h0 : 0 ≤ ops) (h1 : ops ≤ 1000000000) (hl : left ≤ 1000000000)
    (h : ∀ o l d, (∀ e, dcall ops left down = (e, o, l, d) → e ≠ .ok → K e fs o l d) ∧ (dcall ops left down = (.ok, o, l, d) → K (dsync fs p).1 (dsync fs p).2 o l d)) : M_pdisk_Disk_Sync fs ops left down p K := by
  refine call_M h0 h1 hl ?_
  rcases hc : dcall ops left down with ⟨e, o, l, d⟩
  obtain ⟨k1, k2⟩ := h o l d
  refine ⟨fun hne => k1 e hc hne, fun he => ?_⟩
  dsimp only at he
  subst he
  have k2 := k2 hc
  have hpm : p.length ≤ maxLen := by unfold maxLen; omega
  unfold dsync at k2
  refine valid_M (by omega) ⟨fun hb => ?_, fun hb => ?_⟩
  · have : validB p = false := by simpa using hb
    rw [if_pos this] at k2
    exact k2
  · have : ¬ validB p = false := by simpa using hb
    rw [if_neg this] at k2
    exact ⟨fun f => f = (if (mget fs p).isSome = true then mput fs p ((fil fs p).1, (fil fs p).2.1, (fil fs p).1, (fil fs p).2.1, []) else fs), ⟨hpm, fun ht => fun _ => by rw [if_pos ht]; rfl, fun ht => by rw [if_neg (by rw [ht]; simp)]⟩, fun f hf => by rw [hf]; exact k2⟩
theorem dlist_M {fs : DF} {ops left : Int} {down : Bool} {K : List (List UInt8) → Er → DF → Int → Int → Bool → Prop} (h0 : 0 ≤ ops) (h1 : ops ≤ 1000000000) (hl : left ≤ 1000000000) (hf : fs.length ≤ 1000000)
    (h : ∀ o l d, (∀ e, dcall ops left down = (e, o, l, d) → e ≠ .ok → K [] e fs o l d) ∧ (dcall ops left down = (.ok, o, l, d) → K (pathsP fs) .ok fs o l d)) : M_pdisk_Disk_List fs ops left down K := by
  refine call_M h0 h1 hl ?_
  rcases hc : dcall ops left down with ⟨e, o, l, d⟩
  obtain ⟨k1, k2⟩ := h o l d
  refine ⟨fun hne => k1 e hc hne, fun he => ?_⟩
  dsimp only at he
  subst he
  exact paths_M hf (k2 hc)
end Go.Proofs.YtlonpmajnglmoaaDoor


 /- A disk, plainly: the fall of the power, what rises behind it. -/
namespace Go.Proofs.YtlonpmajnglmoaaDoor
open Go Go.RowKit
section
variable {fs : DF} {ops : Int} {p text : List UInt8} {kind : Int}
theorem put0_M {K : Er → DF → Int → Int → Bool → Prop} (hp : p.length ≤ 1000000) (h0 : 0 ≤ ops) (h1 : ops ≤ 1000000000) (hf : fs.length ≤ 1000000) (ht : text.length ≤ 1000000) (hx : (fil fs p).1.length ≤ 1000000) (hs : (fil fs p).2.2.2.2.length ≤ 1000000) (h : K (dlay fs p text kind).1 (dlay fs p text kind).2 (ops + 1) 0 false) : M_pdisk_Disk_put fs ops 0 false p text kind text K :=
  put_M hp h0 h1 (by omega) hf ht hx hs fun o l d => ⟨fun e he hne => by
    simp only [dcall, Bool.false_eq_true, if_false, Int.lt_irrefl, Prod.mk.injEq] at he
    exact absurd he.1.symm hne, fun he => by
    simp only [dcall, Bool.false_eq_true, if_false, Int.lt_irrefl, Prod.mk.injEq, true_and] at he
    obtain ⟨rfl, rfl, rfl⟩ := he
    exact h⟩
theorem sync0_M {K : Er → DF → Int → Int → Bool → Prop} (hp : p.length ≤ 1000000) (h0 : 0 ≤ ops) (h1 : ops ≤ 1000000000) (h : K (dsync fs p).1 (dsync fs p).2 (ops + 1) 0 false) : M_pdisk_Disk_Sync fs ops 0 false p K :=
  sync_M hp h0 h1 (by omega) fun o l d => ⟨fun e he hne => by
    simp only [dcall, Bool.false_eq_true, if_false, Int.lt_irrefl, Prod.mk.injEq] at he
    exact absurd he.1.symm hne, fun he => by
    simp only [dcall, Bool.false_eq_true, if_false, Int.lt_irrefl, Prod.mk.injEq, true_and] at he
    obtain ⟨rfl, rfl, rfl⟩ := he
    exact h⟩
/-- what a read tells, when the power is there -/
def dtext (fs : DF) (p : List UInt8) : List UInt8 := if thereB fs p = true then (fil fs p).1 else []
theorem dreadC_M {left : Int} {down : Bool} {K : List UInt8 → Bool → Er → DF → Int → Int → Bool → Prop} (hp : p.length ≤ maxLen) (h0 : 0 ≤ ops) (h1 : ops ≤ 1000000000) (hl : left ≤ 1000000000)
    (h : K (if (dcall ops left down).1 = .ok then dtext fs p else []) (decide ((dcall ops left down).1 = .ok) && thereB fs p) (dcall ops left down).1 fs (dcall ops left down).2.1 (dcall ops left down).2.2.1 (dcall ops left down).2.2.2) : M_pdisk_Disk_Read fs ops left down p K := by
  refine dread_M hp h0 h1 hl fun o l d => ⟨fun e he hne => ?_, fun he ht => ?_, fun he ht => ?_⟩
  · rw [he] at h
    simpa [hne] using h
  · rw [he] at h
    simpa [dtext, ht] using h
  · rw [he] at h
    simpa [dtext, ht] using h
theorem dread0_M {K : List UInt8 → Bool → Er → DF → Int → Int → Bool → Prop} (hp : p.length ≤ maxLen) (h0 : 0 ≤ ops) (h1 : ops ≤ 1000000000) (h : K (dtext fs p) (thereB fs p) .ok fs (ops + 1) 0 false) : M_pdisk_Disk_Read fs ops 0 false p K :=
  dreadC_M hp h0 h1 (by omega) (by simpa [dcall] using h)
theorem dlay_ok (hv : validB p = true) (hf : fs.length < 2000) (ht : (if kind = 1 ∧ thereB fs p = true then (fil fs p).1 ++ text else text).length ≤ 65536) :
    dlay fs p text kind = (.ok, mput fs p (if kind = 1 ∧ thereB fs p = true then (fil fs p).1 ++ text else text, true, (fil fs p).2.2.1, (fil fs p).2.2.2.1, (fil fs p).2.2.2.2 ++ [(kind, text)])) := by
  have := pathsP_len fs
  unfold dlay
  rw [if_neg (fun h => h.elim (fun h => by rw [hv] at h; cases h) (fun h => by omega)), if_neg (by rintro ⟨_, h⟩; omega)]
end
/-! ### a file rises -/
def appC (c : Int × List UInt8) (t : List UInt8) : List UInt8 × Bool := if c.1 = 0 then (c.2, true) else if c.1 = 1 then (t ++ c.2, true) else ([], false)
def cutN (c : Int × List UInt8) (cut : Int) : Int := if (c.2.length : Int) - 1 < cut then (c.2.length : Int) - 1 else cut
def riseP (cut : Int) : Nat → List (Int × List UInt8) → List UInt8 → Bool → List UInt8 × Bool
  | _, [], t, b => (t, b)
  | 0, c :: _, t, b => if c.1 = 1 ∧ 0 < cutN c cut then (t ++ c.2.take (cutN c cut).toNat, true) else (t, b)
  | k + 1, c :: l, t, _ => riseP cut k l (appC c t).1 (appC c t).2
theorem frise_M {text synced : List UInt8} {is was : Bool} {since : List (Int × List UInt8)} {keep cut : Int} {K : List UInt8 → Bool → List UInt8 → Bool → List (Int × List UInt8) → Prop} (hk : 0 ≤ keep) (hs : synced.length ≤ 1000000) (hn : since.length ≤ 1000000) (hc : ∀ c ∈ since, c.2.length ≤ 1000000)
    (h : K (riseP cut keep.toNat since synced was).1 (riseP cut keep.toNat since synced was).2 synced was since) : M_pdisk_file_rise text is synced was since keep cut K := by
  intro _
  refine ⟨fun i t b => 0 ≤ i ∧ i ≤ since.length ∧ i ≤ keep ∧ riseP cut (keep - i).toNat (since.drop i.toNat) t b = riseP cut keep.toNat since synced was ∧ t.length ≤ 1000000 * (i.toNat + 1), fun i _ _ => since.length - i.toNat, ⟨by omega, by omega, hk, by simp, by simpa using hs⟩, fun i t b ⟨a0, a1, a2, a3, a4⟩ => ⟨fun hlt => ?_, fun hge => ?_⟩⟩
  · have hi : i.toNat < since.length := by omega
    have e : since.getD i.toNat (0, []) = since[i.toNat] := by simp [List.getD, hi]
    have hc' := hc _ (List.getElem_mem hi)
    rw [List.drop_eq_getElem_cons hi] at a3
    rw [e]
    generalize since[i.toNat] = c at a3 hc' ⊢
    refine ⟨fun t' b' => (t', b') = appC c t ∧ i < keep, ⟨⟨a0, hlt⟩, fun hke => ?_, fun hnk => ?_⟩, fun t' b' ⟨g1, g2⟩ => ⟨by simp only [In]; omega, ⟨by omega, by omega, by omega, ?_, ?_⟩, by (try dsimp only); omega⟩⟩
    · have hik : i = keep := by omega
      rw [show (keep - i).toNat = 0 by omega] at a3
      have hcn : (if (c.2.length : Int) - 1 < cut then (c.2.length : Int) - 1 else cut) = cutN c cut := rfl
      rw [hcn]
      have hcl : cutN c cut ≤ (c.2.length : Int) - 1 := by unfold cutN; split <;> omega
      refine ⟨fun t' b' => (t', b') = riseP cut keep.toNat since synced was, ⟨by simp only [In]; omega, fun hb => ?_, fun hb => ?_⟩, fun t' b' hr => ?_⟩
      · rw [Bool.and_eq_true, decide_eq_true_eq, decide_eq_true_eq] at hb
        refine ⟨⟨by omega, by omega⟩, by rw [List.length_take]; omega, ?_⟩
        rw [← a3]; unfold riseP; rw [if_pos hb]
      · have : ¬ (c.1 = 1 ∧ 0 < cutN c cut) := fun ⟨g1, g2⟩ => by rw [decide_eq_true g1, decide_eq_true g2] at hb; cases hb
        rw [← a3]; unfold riseP; rw [if_neg this]
      · rw [← hr] at h
        exact h
    · have hik : i < keep := by omega
      refine ⟨fun h0 => ⟨by unfold appC; rw [if_pos h0], hik⟩, fun h0 => ⟨fun h1 => ⟨by omega, by unfold appC; rw [if_neg h0, if_pos h1], hik⟩, fun h1 => ⟨by unfold appC; rw [if_neg h0, if_neg h1], hik⟩⟩⟩
    · rw [show (keep - i).toNat = (keep - (i + 1)).toNat + 1 by omega] at a3
      rw [show (i + 1).toNat = i.toNat + 1 by omega, ← a3]
      show _ = riseP cut _ _ (appC c t).1 (appC c t).2
      rw [← g1]
    · have : t' = (appC c t).1 := by rw [← g1]
      rw [this]
      unfold appC
      split
      · show c.2.length ≤ _; omega
      · split
        · show (t ++ c.2).length ≤ _; rw [List.length_append]; omega
        · show ([] : List UInt8).length ≤ _; simp
  · obtain rfl : i = since.length := by omega
    have : since.drop ((since.length : Int).toNat) = [] := by simp
    rw [this] at a3
    have e2 : ∀ k, riseP cut k [] t b = (t, b) := fun k => by cases k <;> rfl
    rw [e2] at a3
    rw [← a3] at h
    exact h
def riseAll (cut : Int) : List (List UInt8) → Int → DF → DF
  | [], _, fs => fs
  | k :: ks, keep, fs =>
    if (fil fs k).2.2.2.2 = [] then riseAll cut ks keep (mput fs k ((fil fs k).1, (fil fs k).2.1, (fil fs k).1, (fil fs k).2.1, []))
    else riseAll cut ks (keep / 4) (mput fs k ((riseP cut (keep % 4).toNat (fil fs k).2.2.2.2 (fil fs k).2.2.1 (fil fs k).2.2.2.1).1, (riseP cut (keep % 4).toNat (fil fs k).2.2.2.2 (fil fs k).2.2.1 (fil fs k).2.2.2.1).2, (riseP cut (keep % 4).toNat (fil fs k).2.2.2.2 (fil fs k).2.2.1 (fil fs k).2.2.2.1).1, (riseP cut (keep % 4).toNat (fil fs k).2.2.2.2 (fil fs k).2.2.1 (fil fs k).2.2.2.1).2, []))
theorem riseAll_cons (cut : Int) (k : List UInt8) (ks : List (List UInt8)) (keep : Int) (fs : DF) : riseAll cut (k :: ks) keep fs =
  (if (fil fs k).2.2.2.2 = [] then riseAll cut ks keep (mput fs k ((fil fs k).1, (fil fs k).2.1, (fil fs k).1, (fil fs k).2.1, []))
    else riseAll cut ks (keep / 4) (mput fs k ((riseP cut (keep % 4).toNat (fil fs k).2.2.2.2 (fil fs k).2.2.1 (fil fs k).2.2.2.1).1, (riseP cut (keep % 4).toNat (fil fs k).2.2.2.2 (fil fs k).2.2.1 (fil fs k).2.2.2.1).2, (riseP cut (keep % 4).toNat (fil fs k).2.2.2.2 (fil fs k).2.2.1 (fil fs k).2.2.2.1).1, (riseP cut (keep % 4).toNat (fil fs k).2.2.2.2 (fil fs k).2.2.1 (fil fs k).2.2.2.1).2, []))) := rfl
/-- what hangs on a file is small -/
def SmallF (x : Fil) : Prop := x.2.2.1.length ≤ 1000000 ∧ x.2.2.2.2.length ≤ 1000000 ∧ ∀ c ∈ x.2.2.2.2, c.2.length ≤ 1000000
def max0 (n : Int) : Int := if n < 0 then 0 else n
theorem mget_put_some {fs : DF} {k q : List UInt8} {x : Fil} (h : (mget fs q).isSome = true) : (mget (mput fs k x) q).isSome = true := by
  rw [mget_mput]; split
  · rfl
  · exact h
theorem rise_M {fs : DF} {ops left : Int} {down : Bool} {keep cut : Int} {K : DF → Int → Int → Bool → Prop} (hf : fs.length ≤ 1000000) (hkl : ∀ p ∈ fs, p.1.length ≤ maxLen) (hk : In .i64 keep) (hS : ∀ k, SmallF (fil fs k)) (h : if down = true then K (riseAll (max0 cut) (sortB (fs.map (·.1))) (max0 keep) fs) ops 0 false else K fs ops left down) : M_pdisk_Disk_Rise fs ops left down keep cut K := by
  refine ⟨fun hd => ?_, fun hd => ⟨by omega, ?_⟩⟩
  · have : down = false := by simpa using hd
    subst this
    simpa using h
  · have : down = true := by simpa using hd
    subst this
    rw [if_pos rfl] at h
    show Lp3 _ (max0 keep) 0 fs
    have hsort : ((fs.map (·.1)).mergeSort fun x y => decide (x ≤ y)) = sortB (fs.map (·.1)) := rfl
    rw [hsort]
    have hks : ∀ k ∈ sortB (fs.map (·.1)), (mget fs k).isSome = true ∧ k.length ≤ maxLen := fun k hk => by
      obtain ⟨p, hp, rfl⟩ := List.mem_map.1 ((sortB_mem _ _).1 hk)
      refine ⟨?_, hkl p hp⟩
      cases hm : mget fs p.1 with
      | some x => rfl
      | none => exact absurd rfl (mget_none.1 hm p hp)
    have hlen : (sortB (fs.map (·.1))).length ≤ 1000000 := by unfold sortB; rw [List.length_mergeSort, List.length_map]; exact hf
    generalize sortB (fs.map (·.1)) = ks at h hks hlen ⊢
    have hk63 : keep < 9223372036854775808 := by simp only [In] at hk; omega
    refine ⟨fun kp i d => 0 ≤ i ∧ i ≤ ks.length ∧ 0 ≤ kp ∧ kp < 9223372036854775808 ∧ riseAll (max0 cut) (ks.drop i.toNat) kp d = riseAll (max0 cut) ks (max0 keep) fs ∧ (∀ k ∈ ks, (mget d k).isSome = true) ∧ ∀ k, SmallF (fil d k) ∨ (fil d k).2.2.2.2 = [], fun _ i _ => ks.length - i.toNat,
      ⟨by omega, by omega, by unfold max0; split <;> omega, by unfold max0; split <;> omega, by simp, fun k hk => (hks k hk).1, fun k => .inl (hS k)⟩, fun kp i d ⟨a0, a1, a2, a3, a4, a5, a6⟩ => ⟨fun hlt => ?_, fun hge => ?_⟩⟩
    · have hi : i.toNat < ks.length := by omega
      have e : ks.getD i.toNat [] = ks[i.toNat] := by simp [List.getD, hi]
      have hm := hks _ (List.getElem_mem hi)
      have hsm := a5 _ (List.getElem_mem hi)
      have hmem := List.getElem_mem hi
      rw [List.drop_eq_getElem_cons hi] at a4
      rw [e]
      generalize ks[i.toNat] = k at a4 hm hsm hmem ⊢
      have hz : (mget d k).getD ([], false, [], false, []) = fil d k := rfl
      rw [riseAll_cons] at a4
      rw [hz]
      refine ⟨⟨a0, hlt⟩, hm.2, fun kp' d' => 0 ≤ kp' ∧ kp' < 9223372036854775808 ∧ (mget d' k).isSome = true ∧ (∀ q ∈ ks, (mget d' q).isSome = true) ∧ (∀ q, q ≠ k → fil d' q = fil d q) ∧ riseAll (max0 cut) (ks.drop (i.toNat + 1)) kp' (mput d' k ((fil d' k).1, (fil d' k).2.1, (fil d' k).1, (fil d' k).2.1, [])) = riseAll (max0 cut) ks (max0 keep) fs, ⟨hsm, fun hpos => ⟨⟨a2, by omega⟩, ?_⟩, fun hz0 => ?_⟩, fun kp' d' ⟨b0, b1, b2, b3, b4, b5⟩ => ⟨b2, fun _ => ⟨by simp only [In]; omega, ⟨by omega, by omega, b0, b1, ?_, ?_, ?_⟩, by (try dsimp only); omega⟩⟩⟩
      · have hne : (fil d k).2.2.2.2 ≠ [] := fun e => by rw [e] at hpos; simp at hpos
        rw [if_neg hne] at a4
        have hsmall : SmallF (fil d k) := (a6 k).resolve_right hne
        refine frise_M (by omega) hsmall.1 hsmall.2.1 hsmall.2.2 ⟨⟨a2, by omega, by simp only [In]; omega⟩, by omega, by omega, by rw [mget_same]; rfl, fun q hq => mget_put_some (a5 q hq), fun q hq => by rw [fil_put, if_neg (fun e => hq e.symm)], ?_⟩
        rw [mput_mput, fil_put, if_pos rfl]
        exact a4
      · have h0 : (fil d k).2.2.2.2 = [] := List.eq_nil_of_length_eq_zero (by omega)
        rw [if_pos h0] at a4
        exact ⟨a2, a3, hsm, a5, fun _ _ => rfl, a4⟩
      · rw [show (i + 1).toNat = i.toNat + 1 by omega]
        exact b5
      · exact fun q hq => mget_put_some (b3 q hq)
      · intro q
        rw [fil_put]
        split
        · exact .inr rfl
        · rename_i hq
          rw [b4 q (fun e => hq e.symm)]
          exact a6 q
    · obtain rfl : i = ks.length := by omega
      have : ks.drop ((ks.length : Int).toNat) = [] := by simp
      rw [this] at a4
      have a4' : d = riseAll (max0 cut) ks (max0 keep) fs := a4
      rw [← a4'] at h
      exact h
end Go.Proofs.YtlonpmajnglmoaaDoor


 /- Printed by a program (wip/vg): what the functions mean, plainly, and their walks. -/
namespace Go.Proofs.YtlonpmajnglmoaaDoor
open Go Go.RowKit
attribute [local irreducible] WL WC WX WQ WK WJ Yld Eff Ef0 Fn
end Go.Proofs.YtlonpmajnglmoaaDoor

 /- smithylaw1.first; Dir, Base, Under; PathDirs. -/
namespace Go.Proofs.YtlonpmajnglmoaaDoor
open Go Go.RowKit
end Go.Proofs.YtlonpmajnglmoaaDoor


 /- Patterns at work: PathStars. -/
namespace Go.Proofs.YtlonpmajnglmoaaDoor
open Go Go.RowKit
end Go.Proofs.YtlonpmajnglmoaaDoor


 /- Clean twice: PathAgain. -/
namespace Go.Proofs.YtlonpmajnglmoaaDoor
open Go Go.RowKit
end Go.Proofs.YtlonpmajnglmoaaDoor


 /- The chapter's own words for paths (smithyref1), and PathSays. -/
namespace Go.Proofs.YtlonpmajnglmoaaDoor
open Go Go.RowKit
end Go.Proofs.YtlonpmajnglmoaaDoor


 /- Globs: the plain side. -/
namespace Go.Proofs.YtlonpmajnglmoaaDoor
open Go Go.RowKit
end Go.Proofs.YtlonpmajnglmoaaDoor


 /- DiskArms and DiskFiles, plainly. -/
namespace Go.Proofs.YtlonpmajnglmoaaDoor
open Go Go.RowKit
theorem numR_M {n below : Int} {K : Int → Prop} (hn : In .i64 n) (hb : 0 < below) (hb2 : below ≤ 100000) (h : ∀ m, 0 ≤ m → m < below → K m) : M_smithyworld_Number n below K := by
  unfold M_smithyworld_Number
  have h1 := Int.tmod_lt_of_pos n hb
  have h2 := Int.lt_tmod_of_pos n hb
  simp only [In] at hn
  refine ⟨by omega, by simp only [In]; omega, by omega, ?_⟩
  have h3 : 0 ≤ n.tmod below + below := by omega
  rw [Int.tmod_eq_emod_of_nonneg h3]
  exact h _ (Int.emod_nonneg _ (by omega)) (Int.emod_lt_of_pos _ hb)
theorem new0_M {K0 : Er → Prop} {K : DF → Int → Int → Bool → Er → Prop} (h : K [] 0 0 false .ok) : M_disk_New [] K0 K := by
  intro _
  refine ⟨fun i fs => i = 0 ∧ fs = [], fun _ _ => 0, ⟨rfl, rfl⟩, fun i fs ⟨a0, a1⟩ => ⟨fun hlt => ?_, fun _ => ⟨fun hb => ?_, fun _ => by rw [a1]; exact h⟩⟩⟩
  · subst a0; simp at hlt
  · simp at hb
theorem sort1 (x : List UInt8) : sortB [x] = [x] := by unfold sortB; simp
end Go.Proofs.YtlonpmajnglmoaaDoor


 /- DiskFiles, plainly. -/
namespace Go.Proofs.YtlonpmajnglmoaaDoor
open Go Go.RowKit
def nms : List (List UInt8) := [[97], [98, 47, 99], [100]]
def nm (k : Nat) : List UInt8 := nms.getD k []
theorem nm_inj {j k : Nat} (hj : j < 3) (hk : k < 3) (h : nm j = nm k) : j = k := by
  match j, k, hj, hk with
  | 0, 0, _, _ => rfl
  | 1, 1, _, _ => rfl
  | 2, 2, _, _ => rfl
  | 0, 1, _, _ => exact absurd h (by decide)
  | 0, 2, _, _ => exact absurd h (by decide)
  | 1, 0, _, _ => exact absurd h (by decide)
  | 1, 2, _, _ => exact absurd h (by decide)
  | 2, 0, _, _ => exact absurd h (by decide)
  | 2, 1, _, _ => exact absurd h (by decide)
structure DInv (fs : DF) (hv : List Bool) (tx : List (List UInt8)) (n : Nat) : Prop where
  uq : Uq fs
  len : fs.length ≤ n
  keys : ∀ p ∈ fs, ∃ k, k < 3 ∧ p.1 = nm k
  hl : hv.length = 3
  tl : tx.length = 3
  there : ∀ k, k < 3 → thereB fs (nm k) = hv.getD k false
  text : ∀ k, k < 3 → (fil fs (nm k)).1 = tx.getD k []
  none : ∀ k, k < 3 → hv.getD k false = false → tx.getD k [] = []
  size : ∀ k, k < 3 → (tx.getD k []).length ≤ 100 * n
  since : ∀ k, k < 3 → (fil fs (nm k)).2.2.2.2.length ≤ n
theorem getD_setF {α : Type} {l : List α} {i j : Nat} {x d : α} (hi : i < l.length) : (l.set i x).getD j d = if i = j then x else l.getD j d := by
  simp only [List.getD, List.getElem?_set]
  by_cases e : i = j
  · subst e; simp [hi]
  · simp [e]
theorem DInv.put {fs : DF} {hv : List Bool} {tx : List (List UInt8)} {n k : Nat} (h : DInv fs hv tx n) (hk : k < 3) {t s : List UInt8} {b w : Bool} {l : List (Int × List UInt8)} (ht : t.length ≤ 100 * (n + 1)) (hb : b = false → t = []) (hll : l.length ≤ n + 1) : DInv (mput fs (nm k) (t, b, s, w, l)) (hv.set k b) (tx.set k t) (n + 1) := by
  have hk1 : k < hv.length := by rw [h.hl]; exact hk
  have hk2 : k < tx.length := by rw [h.tl]; exact hk
  have hne : ∀ {j}, j < 3 → (nm k = nm j ↔ k = j) := fun hj => ⟨nm_inj hk hj, fun e => by rw [e]⟩
  refine ⟨h.uq.put _ _, ?_, ?_, by rw [List.length_set, h.hl], by rw [List.length_set, h.tl], ?_, ?_, ?_, ?_, ?_⟩
  · rw [mput_len]; have := h.len; split <;> omega
  · intro p hp
    rcases mput_mem hp with rfl | hp
    · exact ⟨k, hk, rfl⟩
    · exact h.keys p hp
  · intro j hj
    rw [getD_setF hk1]
    unfold thereB
    rw [fil_put]
    by_cases e : k = j
    · subst e; rw [if_pos rfl, if_pos rfl]
    · rw [if_neg (fun e2 => e ((hne hj).1 e2)), if_neg e]; exact h.there j hj
  · intro j hj
    rw [getD_setF hk2, fil_put]
    by_cases e : k = j
    · subst e; rw [if_pos rfl, if_pos rfl]
    · rw [if_neg (fun e2 => e ((hne hj).1 e2)), if_neg e]; exact h.text j hj
  · intro j hj
    rw [getD_setF hk1, getD_setF hk2]
    by_cases e : k = j
    · rw [if_pos e, if_pos e]; exact hb
    · rw [if_neg e, if_neg e]; exact h.none j hj
  · intro j hj
    rw [getD_setF hk2]
    by_cases e : k = j
    · rw [if_pos e]; exact ht
    · rw [if_neg e]; have := h.size j hj; omega
  · intro j hj
    rw [fil_put]
    by_cases e : k = j
    · subst e; rw [if_pos rfl]; exact hll
    · rw [if_neg (fun e2 => e ((hne hj).1 e2))]; have := h.since j hj; omega
theorem DInv.mono {fs : DF} {hv : List Bool} {tx : List (List UInt8)} {n : Nat} (h : DInv fs hv tx n) : DInv fs hv tx (n + 1) :=
  ⟨h.uq, Nat.le_succ_of_le h.len, h.keys, h.hl, h.tl, h.there, h.text, h.none, fun k hk => by have := h.size k hk; omega, fun k hk => Nat.le_succ_of_le (h.since k hk)⟩
end Go.Proofs.YtlonpmajnglmoaaDoor


 /- A cache, plainly: its journal. -/
namespace Go.Proofs.YtlonpmajnglmoaaDoor
open Go Go.RowKit
abbrev Ent := List UInt8 × List UInt8
/-- an entry's line -/
def recP (e : Ent) : List UInt8 := hexS e.1 ++ [32] ++ hexS e.2 ++ [32] ++ hexS (manyS [hexS e.1, hexS e.2]) ++ [10]
def Ok32 (e : Ent) : Prop := e.1.length = 32 ∧ e.2.length = 32
theorem hex64 {l : List UInt8} (h : l.length = 32) : (hexS l).length = 64 := by rw [hexS_len, h]
theorem recP_len {e : Ent} (h : Ok32 e) : (recP e).length = 195 := by
  unfold recP
  simp only [List.length_append, List.length_cons, List.length_nil, hex64 h.1, hex64 h.2, hex64 (manyS_len _)]
theorem record_M {k o : List UInt8} {K : List UInt8 → Prop} (h : Ok32 (k, o)) (hK : K (recP (k, o))) : M_cache_Record k o K := by
  have h1 := hex64 h.1
  have h2 := hex64 h.2
  dsimp only at h1 h2
  refine text_M h.1 (text_M h.2 ⟨by simp only [List.length_cons, List.length_nil]; omega, by simp only [List.length_append, List.length_cons, List.length_nil]; omega, by simp only [List.length_append, List.length_cons, List.length_nil]; omega, ⟨by simp, fun x hx => ?_, text_M (manyS_len _) ⟨?_, ?_, hK⟩⟩⟩)
  · simp only [List.mem_cons, List.not_mem_nil, or_false] at hx
    rcases hx with rfl | rfl <;> omega
  · have h3 := hex64 (manyS_len [hexS k, hexS o])
    simp only [List.length_append, List.length_cons, List.length_nil]; omega
  · have h3 := hex64 (manyS_len [hexS k, hexS o])
    simp only [List.length_append, List.length_cons, List.length_nil]; omega
def oneP (s : List UInt8) : Option Ent :=
  match parS (s.take 64), parS ((s.drop 65).take 64) with
  | some k, some o => if recP (k, o) = s then some (k, o) else none
  | _, _ => none
theorem oneP_rec {s : List UInt8} {e : Ent} (h : oneP s = some e) : recP e = s ∧ Ok32 e := by
  unfold oneP at h
  split at h
  · rename_i k o hk ho
    split at h
    · rename_i hr
      simp only [Option.some.injEq] at h
      subst h
      exact ⟨hr, parS_len hk, parS_len ho⟩
    · cases h
  · cases h
theorem oneP_of {e : Ent} (h : Ok32 e) : oneP (recP e) = some e := by
  have h1 := hex64 h.1
  have h2 := hex64 h.2
  have e1 : (recP e).take 64 = hexS e.1 := by
    unfold recP
    simp only [List.append_assoc]
    exact List.take_left' h1
  have e2 : ((recP e).drop 65).take 64 = hexS e.2 := by
    unfold recP
    have : hexS e.1 ++ [32] ++ hexS e.2 ++ [32] ++ hexS (manyS [hexS e.1, hexS e.2]) ++ [10] = (hexS e.1 ++ [32]) ++ (hexS e.2 ++ ([32] ++ hexS (manyS [hexS e.1, hexS e.2]) ++ [10])) := by simp only [List.append_assoc]
    rw [this, List.drop_left' (by simp [h1]), List.take_left' h2]
  unfold oneP
  rw [e1, e2, parS_hex _ h.1, parS_hex _ h.2]
  simp
theorem one_M {s : List UInt8} {K : List UInt8 → List UInt8 → Bool → Prop} (hs : 129 ≤ s.length) (h1 : ∀ k o, oneP s = some (k, o) → K k o true) (h0 : oneP s = none → ∀ k o, K k o false) : M_cache_one s K := by
  have hcut : (s.drop 65).take (129 - 65) = (s.drop 65).take 64 := rfl
  refine ⟨⟨by omega, by omega⟩, ?_⟩
  have key : ∀ k e, (parS (s.take 64) = some k ∧ e = Er.ok ∨ parS (s.take 64) = none ∧ e = .e 12) → (0 ≤ (65 : Int) ∧ (65 : Int) ≤ (129 : Int) ∧ (129 : Int) ≤ s.length) ∧ M_sha_Parse ((s.drop 65).take (129 - 65)) (fun (t180 : List UInt8) (t181 : Er) =>
      ∃ J1 : Bool → Prop, (((((decide (e = Er.ok)) && (decide (t181 = Er.ok))) = true → M_cache_Record k t180 (fun (t33 : List UInt8) => J1 (decide (t33 = s)))) ∧ (((decide (e = Er.ok)) && (decide (t181 = Er.ok))) = false → J1 false))) ∧ (∀ q2 : Bool, J1 q2 → K k t180 q2)) := by
    intro k e hk
    refine ⟨⟨by omega, by omega, by omega⟩, fun o ho => ?_, fun ho => ?_⟩
    · rcases hk with ⟨hk, rfl⟩ | ⟨hk, rfl⟩
      · refine ⟨fun b => b = decide (recP (k, o) = s), ⟨fun _ => record_M ⟨parS_len hk, parS_len ho⟩ rfl, fun h => by simp at h⟩, fun q hq => ?_⟩
        rw [hq]
        rw [hcut] at ho
        by_cases hr : recP (k, o) = s
        · rw [decide_eq_true hr]
          refine h1 k o ?_
          unfold oneP
          rw [hk, ho]
          simp [hr]
        · rw [decide_eq_false hr]
          refine h0 ?_ k o
          unfold oneP
          rw [hk, ho]
          simp [hr]
      · refine ⟨fun b => b = false, ⟨fun h => by simp at h, fun _ => rfl⟩, fun q hq => ?_⟩
        rw [hq]
        refine h0 ?_ k o
        unfold oneP
        rw [hk]
    · refine ⟨fun b => b = false, ⟨fun h => by simp at h, fun _ => rfl⟩, fun q hq => ?_⟩
      rw [hq]
      rw [hcut] at ho
      refine h0 ?_ k _
      unfold oneP
      rw [ho]
      cases parS (s.take 64) <;> rfl
  exact ⟨fun k hk => key k .ok (.inl ⟨hk, rfl⟩), fun hk => key _ _ (.inr ⟨hk, rfl⟩)⟩
/-- the records that a text begins with -/
def readP (s : List UInt8) : List Ent :=
  if h : 195 ≤ s.length then
    match oneP (s.take 195) with
    | some e => e :: readP (s.drop 195)
    | none => []
  else []
 termination_by s.length
 decreasing_by simp; omega
theorem readP_short {s : List UInt8} (h : s.length < 195) : readP s = [] := by
  unfold readP
  rw [dif_neg (by omega)]
theorem readP_some {s : List UInt8} {e : Ent} (h : 195 ≤ s.length) (ho : oneP (s.take 195) = some e) : readP s = e :: readP (s.drop 195) := by
  conv => lhs; unfold readP
  rw [dif_pos h, ho]
theorem readP_none {s : List UInt8} (ho : oneP (s.take 195) = none) : readP s = [] := by
  unfold readP
  split
  · rw [ho]
  · rfl
theorem readP_rec {e : Ent} (h : Ok32 e) (s : List UInt8) : readP (recP e ++ s) = e :: readP s := by
  have hl := recP_len h
  rw [readP_some (e := e) (by rw [List.length_append]; omega) (by rw [List.take_left' hl]; exact oneP_of h), List.drop_left' hl]
/-- a journal's text -/
def jrn (l : List Ent) : List UInt8 := l.flatMap recP
theorem jrn_len : ∀ {l : List Ent}, (∀ e ∈ l, Ok32 e) → (jrn l).length = 195 * l.length
  | [], _ => rfl
  | e :: l, h => by
    have ih := jrn_len (l := l) fun x hx => h x (List.mem_cons_of_mem _ hx)
    unfold jrn at *
    rw [List.flatMap_cons, List.length_append, recP_len (h e List.mem_cons_self), ih, List.length_cons]
    omega
theorem jrn_app (a b : List Ent) : jrn (a ++ b) = jrn a ++ jrn b := by unfold jrn; rw [List.flatMap_append]
theorem readP_jrn : ∀ {l : List Ent} (s : List UInt8), (∀ e ∈ l, Ok32 e) → readP (jrn l ++ s) = l ++ readP s
  | [], s, _ => rfl
  | e :: l, s, h => by
    have ih := readP_jrn (l := l) s fun x hx => h x (List.mem_cons_of_mem _ hx)
    unfold jrn at *
    rw [List.flatMap_cons, List.append_assoc, readP_rec (h e List.mem_cons_self), ih]
    rfl
theorem readP_ok : ∀ (n : Nat) (s : List UInt8), s.length ≤ n → (∀ e ∈ readP s, Ok32 e) ∧ 195 * (readP s).length ≤ s.length
  | n, s, hn => by
    by_cases h : 195 ≤ s.length
    · cases ho : oneP (s.take 195) with
      | none => rw [readP_none ho]; simp
      | some e =>
        match n, hn with
        | 0, hn => omega
        | n + 1, hn =>
          obtain ⟨h1, h2⟩ := readP_ok n (s.drop 195) (by rw [List.length_drop]; omega)
          rw [readP_some h ho]
          refine ⟨fun x hx => ?_, ?_⟩
          · rcases List.mem_cons.1 hx with rfl | hx
            · exact (oneP_rec ho).2
            · exact h1 x hx
          · rw [List.length_drop] at h2
            rw [List.length_cons]
            omega
    · rw [readP_short (by omega)]; simp
theorem cread_M {text : List UInt8} {K : List Ent → Int → Prop} (ht : text.length ≤ 100000000) (h : K (readP text) (195 * (readP text).length : Nat)) : M_cache_Read text K := by
  refine ⟨fun l n => l = readP text ∧ n = ((195 * (readP text).length : Nat) : Int), ?_, fun l n ⟨e1, e2⟩ => by rw [e1, e2]; exact h⟩
  refine ⟨fun l n => n = ((195 * l.length : Nat) : Int) ∧ n ≤ text.length ∧ l ++ readP (text.drop (195 * l.length)) = readP text, fun _ n => text.length - n.toNat, ⟨by simp, by omega, by simp⟩, fun l n ⟨a0, a1, a2⟩ => ⟨by simp only [In]; omega, fun hle => ?_, fun hgt => ?_⟩⟩
  · have hn : n.toNat = 195 * l.length := by omega
    have hcut : (text.drop n.toNat).take ((n + 195).toNat - n.toNat) = (text.drop (195 * l.length)).take 195 := by rw [hn]; congr 1; omega
    have hlen : 195 ≤ (text.drop (195 * l.length)).length := by rw [List.length_drop]; omega
    refine ⟨by simp only [In]; omega, ⟨by omega, by omega, by omega⟩, ?_⟩
    rw [hcut]
    refine one_M (by rw [List.length_take]; omega) (fun k o ho => ⟨fun hf => (by cases hf), fun _ => ⟨?_, by simp only [In]; omega, ⟨?_, by omega, ?_⟩, by (try dsimp only); omega⟩⟩) (fun ho k o => ⟨fun _ => ?_, fun hf => (by cases hf)⟩)
    · simp only [List.length_cons, List.length_nil]; omega
    · simp only [List.length_append, List.length_cons, List.length_nil]; omega
    · rw [readP_some hlen ho, List.drop_drop] at a2
      rw [← a2, List.append_assoc]
      simp only [List.length_append, List.length_cons, List.length_nil]
      rw [show 195 * (l.length + (0 + 1)) = 195 * l.length + 195 by omega]
      rfl
    · rw [readP_none ho, List.append_nil] at a2
      exact ⟨a2, by rw [← a2]; exact a0⟩
  · rw [readP_short (by rw [List.length_drop]; omega), List.append_nil] at a2
    exact ⟨a2, by rw [← a2]; exact a0⟩
/-- entries laid into a map, one behind the other -/
def layE (l : List Ent) (m : List Ent) : List Ent := l.foldl (fun m e => mput m e.1 e.2) m
theorem mput_len_le (m : List Ent) (k v : List UInt8) : (mput m k v).length ≤ m.length + 1 := by rw [mput_len]; split <;> omega
theorem layE_len : ∀ (l m : List Ent), (layE l m).length ≤ m.length + l.length
  | [], m => Nat.le_refl _
  | e :: l, m => by
    have h1 := layE_len l (mput m e.1 e.2)
    have h2 := mput_len_le m e.1 e.2
    show (layE l (mput m e.1 e.2)).length ≤ _
    rw [List.length_cons]; omega
theorem layE_app (a b m : List Ent) : layE (a ++ b) m = layE b (layE a m) := List.foldl_append
/-- opening: what is left when the last loop has laid the entries -/
theorem lay_loop {es : List Ent} {p : List UInt8} {fs : DF} {ops left : Int} {down : Bool} {K : List UInt8 → List Ent → Er → DF → Int → Int → Bool → Prop} (hes : ∀ e ∈ es, Ok32 e) (hl : es.length ≤ 1000000) (h : K p (layE es []) .ok fs ops left down) :
    Lp2 (fun (t57 : Int) (t542 : List (List UInt8 × List UInt8)) kont1 => ((t57 < (es.length : Int) → (0 ≤ t57 ∧ t57 < (es.length : Nat)) ∧ (((es.getD t57.toNat ([], [])).1).length = 32 ∧ t542.length < maxLen) ∧ (In .i64 (t57 + (1 : Int))) ∧ kont1 (t57 + (1 : Int)) (mput t542 ((es.getD t57.toNat ([], [])).1) ((es.getD t57.toNat ([], [])).2))) ∧
      (¬ (t57 < (es.length : Int)) → K p t542 Er.ok fs ops left down))) (0 : Int) ([] : List (List UInt8 × List UInt8)) := by
  refine ⟨fun i m => 0 ≤ i ∧ i ≤ es.length ∧ m = layE (es.take i.toNat) [], fun i _ => es.length - i.toNat, ⟨by omega, by omega, rfl⟩, fun i m ⟨a0, a1, a2⟩ => ⟨fun hlt => ?_, fun hge => ?_⟩⟩
  · have hi : i.toNat < es.length := by omega
    have e : es.getD i.toNat ([], []) = es[i.toNat] := by simp [List.getD, hi]
    have hm := layE_len (es.take i.toNat) []
    rw [← a2, List.length_take] at hm
    simp only [List.length_nil] at hm
    rw [e]
    refine ⟨⟨a0, hlt⟩, ⟨(hes _ (List.getElem_mem hi)).1, by unfold maxLen; omega⟩, by simp only [In]; omega, ⟨by omega, by omega, ?_⟩, by (try dsimp only); omega⟩
    rw [show (i + 1).toNat = i.toNat + 1 by omega, List.take_succ_eq_append_getElem hi, layE_app, ← a2]
    rfl
  · obtain rfl : i = es.length := by omega
    rw [a2]
    simpa using h
end Go.Proofs.YtlonpmajnglmoaaDoor


 /- A cache, plainly: opened, put, risen. -/
namespace Go.Proofs.YtlonpmajnglmoaaDoor
open Go Go.RowKit
theorem numV_M {n below : Int} {K : Int → Prop} (hn : In .i64 n) (hb : 0 < below) (hb2 : below ≤ 100000) (h : K ((n.tmod below + below) % below)) : M_smithyworld_Number n below K := by
  unfold M_smithyworld_Number
  have h1 := Int.tmod_lt_of_pos n hb
  have h2 := Int.lt_tmod_of_pos n hb
  simp only [In] at hn
  refine ⟨by omega, by simp only [In]; omega, by omega, ?_⟩
  have h3 : 0 ≤ n.tmod below + below := by omega
  rw [Int.tmod_eq_emod_of_nonneg h3]
  exact h
/-! ### names and their digests -/
def nix (n : Int) : Nat := ((n.tmod 12 + 12) % 12).toNat
theorem nix_lt (n : Int) : nix n < 12 := by unfold nix; generalize n.tmod 12 = m; omega
def nm12 (k : Nat) : List UInt8 := [110, UInt8.ofNat (97 + k)]
theorem nm12_cut : ∀ k, k < 12 → ([110] : List UInt8) ++ ((([97, 98, 99, 100, 101, 102, 103, 104, 105, 106, 107, 108] : List UInt8).drop k).take 1) = nm12 k := by decide
theorem name_M {n : Int} {K : List UInt8 → Prop} (hn : In .i64 n) (h : K (nm12 (nix n))) : M_smithylaw25_name n K := by
  have hx := nix_lt n
  have e : ((n.tmod 12 + 12) % 12) = (nix n : Int) := by unfold nix; generalize n.tmod 12 = m; omega
  refine numV_M hn (by omega) (by omega) (numV_M hn (by omega) (by omega) ?_)
  rw [e]
  generalize nix n = k at *
  refine ⟨by simp only [In]; omega, ⟨by omega, by omega, by simp only [List.length_cons, List.length_nil]; omega⟩, by simp only [List.length_cons, List.length_nil, List.length_take, List.length_drop]; omega, ?_⟩
  rw [show ((k : Int) + 1).toNat - (k : Int).toNat = 1 by omega, Int.toNat_natCast, nm12_cut k hx]
  exact h
def Dg (k : Nat) : List UInt8 := shaS (nm12 k)
theorem Dg_len (k : Nat) : (Dg k).length = 32 := shaS_len _
theorem Dg_heads : (List.range 12).map (fun k => (Dg k).headD 0) = [61, 102, 11, 5, 203, 76, 213, 50, 77, 209, 207, 24] := by kernel_rfl
theorem Dg_inj {j k : Nat} (hj : j < 12) (hk : k < 12) (h : Dg j = Dg k) : j = k := by
  have e : ∀ i, i < 12 → (Dg i).headD 0 = ([61, 102, 11, 5, 203, 76, 213, 50, 77, 209, 207, 24] : List UInt8).getD i 0 := by
    intro i hi
    rw [← Dg_heads]
    simp [List.getD, hi]
  have h2 : ∀ j, j < 12 → ∀ k, k < 12 → ([61, 102, 11, 5, 203, 76, 213, 50, 77, 209, 207, 24] : List UInt8).getD j 0 = ([61, 102, 11, 5, 203, 76, 213, 50, 77, 209, 207, 24] : List UInt8).getD k 0 → j = k := by decide
  exact h2 j hj k hk (by rw [← e j hj, ← e k hk, h])
theorem src_M {t : List UInt8} {K : List UInt8 → Prop} (ht : t.length ≤ 1000) (h : K (shaS t)) : M_key_Source t K := ⟨by unfold maxLen; omega, by omega, h⟩
theorem srcN_M {k : Nat} {K : List UInt8 → Prop} (h : K (Dg k)) : M_key_Source (nm12 k) K := src_M (by simp [nm12]) h
attribute [local irreducible] shaS manyS hexS
/-! ### opened -/
def openF (fs : DF) (p : List UInt8) : DF :=
  if 195 * (readP (dtext fs p)).length < (dtext fs p).length then mput fs p ((dtext fs p).take (195 * (readP (dtext fs p)).length), true, (dtext fs p).take (195 * (readP (dtext fs p)).length), true, []) else fs
theorem open0_M {fs : DF} {p : List UInt8} {ops : Int} {K0 : Er → DF → Int → Int → Bool → Prop} {K : List UInt8 → List Ent → Er → DF → Int → Int → Bool → Prop} (hp : p.length ≤ 1000) (hv : validB p = true) (h0 : 0 ≤ ops) (h1 : ops ≤ 1000000) (hf : fs.length < 2000) (ht : (dtext fs p).length ≤ 65536) (hx : (fil fs p).1.length ≤ 1000000) (hs : (fil fs p).2.2.2.2.length ≤ 100000)
    (h : ∀ ops', ops ≤ ops' → ops' ≤ ops + 3 → K p (layE (readP (dtext fs p)) []) .ok (openF fs p) ops' 0 false) : M_cache_Open fs ops 0 false p K0 K := by
  have hr := readP_ok _ (dtext fs p) (Nat.le_refl _)
  refine dread0_M (by unfold maxLen; omega) h0 (by omega) ⟨fun hne => absurd rfl hne, fun _ => ?_⟩
  refine cread_M (by omega) ?_
  refine ⟨fun fs' o l d => fs' = openF fs p ∧ ops + 1 ≤ o ∧ o ≤ ops + 3 ∧ l = 0 ∧ d = false, ⟨fun hlt => ⟨⟨by omega, by omega⟩, ?_⟩, fun hge => ?_⟩, fun fs' o l d ⟨e1, e2, e3, e4, e5⟩ => ?_⟩
  · rw [Int.toNat_natCast]
    refine put0_M (by omega) (by omega) (by omega) (by omega) (by rw [List.length_take]; omega) hx (by omega) ?_
    rw [dlay_ok hv hf (by rw [if_neg (by omega), List.length_take]; omega), if_neg (by omega)]
    refine ⟨fun hne => absurd rfl hne, fun _ => ?_⟩
    refine sync0_M (by omega) (by omega) (by omega) ?_
    have e1 : ∀ s w l, dsync (mput fs p ((dtext fs p).take (195 * (readP (dtext fs p)).length), true, s, w, l)) p = (.ok, mput fs p ((dtext fs p).take (195 * (readP (dtext fs p)).length), true, (dtext fs p).take (195 * (readP (dtext fs p)).length), true, [])) := by
      intro s w l
      unfold dsync
      rw [if_neg (by rw [hv]; simp), mget_same, fil_put, if_pos rfl, mput_mput]; rfl
    rw [e1]
    refine ⟨fun hne => absurd rfl hne, fun _ => ⟨?_, by omega, by omega, rfl, rfl⟩⟩
    unfold openF
    rw [if_pos (by omega)]
  · refine ⟨?_, by omega, by omega, rfl, rfl⟩
    unfold openF
    rw [if_neg (by omega)]
  · subst e4; subst e5; subst e1
    exact lay_loop hr.1 (by omega) (h o (by omega) e3)
/-! ### put -/
theorem mget_in {m : List Ent} {k v : List UInt8} (h : mget m k = some v) : (k, v) ∈ m := by
  induction m with
  | nil => simp [mget] at h
  | cons p m ih =>
    unfold mget at h
    split at h
    · rename_i e; simp only [Option.some.injEq] at h; rw [← h, ← e]; simp
    · exact List.mem_cons_of_mem _ (ih h)
theorem cput_M {fs fs2 : DF} {ops left : Int} {down : Bool} {p k out : List UInt8} {l : List Ent} {K : Er → List UInt8 → List Ent → DF → Int → Int → Bool → Prop} (hk : k.length = 32) (ho : out.length = 32) (hll : l.length ≤ 1000000) (hls : ∀ e ∈ l, Ok32 e) (h0 : 0 ≤ ops) (h1 : ops ≤ 1000000) (hl : left ≤ 1000000) (hp : p.length ≤ 1000) (hf : fs.length ≤ 1000) (hx : (fil fs p).1.length ≤ 1000000) (hs : (fil fs p).2.2.2.2.length ≤ 1000000) (hd : dlay fs p (recP (k, out)) 1 = (.ok, fs2))
    (hsame : mget l k = some out → K .ok p l fs ops left down)
    (hnew : mget l k ≠ some out → ∀ o l' d, (∀ e, dcall ops left down = (e, o, l', d) → e ≠ .ok → K e p l fs o l' d) ∧ (dcall ops left down = (.ok, o, l', d) → K .ok p (mput l k out) fs2 o l' d)) : M_pcache_Cache_Put fs ops left down p l k out K := by
  refine ⟨hk, fun hi => ⟨?_, ho⟩, fun hb => ?_, fun hb => ?_⟩
  · obtain ⟨v, hv⟩ := Option.isSome_iff_exists.1 hi
    rw [hv]; exact (hls (k, v) (mget_in hv)).2
  · rw [Bool.and_eq_true, decide_eq_true_eq] at hb
    refine hsame ?_
    obtain ⟨v, hv⟩ := Option.isSome_iff_exists.1 hb.1
    rw [hv] at hb ⊢
    simpa using hb.2
  · refine record_M ⟨hk, ho⟩ ?_
    have hne : mget l k ≠ some out := fun e => by rw [e] at hb; simp at hb
    refine put_M (by omega) h0 (by omega) (by omega) (by omega) (by rw [recP_len ⟨hk, ho⟩]; omega) hx hs fun o l' d => ⟨fun e he hn => ⟨fun _ => (hnew hne o l' d).1 e he hn, fun h => absurd h hn⟩, fun he => ?_⟩
    rw [hd]
    exact ⟨fun h => absurd rfl h, fun _ => ⟨⟨hk, by unfold maxLen; omega⟩, (hnew hne o l' d).2 he⟩⟩
/-! ### the journal's file -/
theorem jrn_snoc (l : List Ent) (e : Ent) : jrn (l ++ [e]) = jrn l ++ recP e := by
  rw [jrn_app]
  unfold jrn
  rw [List.flatMap_cons, List.flatMap_nil, List.append_nil]
def chg (e : Ent) : Int × List UInt8 := (1, recP e)
def jf (p : List UInt8) (sl rl : List Ent) (w : Bool) : DF := [(p, (jrn (sl ++ rl), true, jrn sl, w, rl.map chg))]
/-- the journal's file holds sl (let last) and rl behind it -/
def JS (fs : DF) (p : List UInt8) (sl rl : List Ent) : Prop := (fs = [] ∧ sl = [] ∧ rl = []) ∨ ∃ w, fs = jf p sl rl w ∧ (w = false → sl = [])
theorem fil_one (p : List UInt8) (x : Fil) : fil [(p, x)] p = x := by simp [fil, mget]
theorem JS.len {fs : DF} {p : List UInt8} {sl rl : List Ent} (h : JS fs p sl rl) : fs.length ≤ 1 := by
  rcases h with ⟨rfl, _, _⟩ | ⟨w, rfl, _⟩ <;> simp [jf]
theorem JS.fil1 {fs : DF} {p : List UInt8} {sl rl : List Ent} (h : JS fs p sl rl) : (fil fs p).1 = jrn (sl ++ rl) := by
  rcases h with ⟨rfl, rfl, rfl⟩ | ⟨w, rfl, _⟩
  · rfl
  · unfold jf; rw [fil_one]
theorem JS.since {fs : DF} {p : List UInt8} {sl rl : List Ent} (h : JS fs p sl rl) : (fil fs p).2.2.2.2 = rl.map chg := by
  rcases h with ⟨rfl, rfl, rfl⟩ | ⟨w, rfl, _⟩
  · rfl
  · unfold jf; rw [fil_one]
theorem JS.text {fs : DF} {p : List UInt8} {sl rl : List Ent} (h : JS fs p sl rl) : dtext fs p = jrn (sl ++ rl) := by
  rcases h with ⟨rfl, rfl, rfl⟩ | ⟨w, rfl, _⟩
  · rfl
  · unfold dtext thereB jf; rw [fil_one, if_pos rfl]
theorem JS.put {fs : DF} {p : List UInt8} {sl rl : List Ent} {e : Ent} (h : JS fs p sl rl) (hv : validB p = true) (ho : ∀ x ∈ sl ++ rl, Ok32 x) (he : Ok32 e) (hl : (sl ++ rl).length ≤ 100) : ∃ fs2, dlay fs p (recP e) 1 = (.ok, fs2) ∧ JS fs2 p sl (rl ++ [e]) := by
  have h1 := recP_len he
  have h2 := jrn_len ho
  have h3 := h.len
  have h4 := h.fil1
  rw [dlay_ok hv (by omega) (by rw [h4]; split <;> (try rw [List.length_append]) <;> omega)]
  refine ⟨_, rfl, ?_⟩
  rcases h with ⟨rfl, rfl, rfl⟩ | ⟨w, rfl, hw⟩
  · refine .inr ⟨false, ?_, fun _ => rfl⟩
    show [(p, (if (1 : Int) = 1 ∧ thereB [] p = true then _ else recP e, true, ([] : List UInt8), false, [((1 : Int), recP e)]))] = _
    rw [if_neg (by rintro ⟨_, h⟩; cases h)]
    have : jrn [e] = recP e := jrn_snoc [] e
    unfold jf
    show _ = [(p, (jrn [e], _))]
    rw [this]; rfl
  · refine .inr ⟨w, ?_, hw⟩
    have ht : thereB (jf p sl rl w) p = true := by unfold thereB jf; rw [fil_one]
    have hf : fil (jf p sl rl w) p = (jrn (sl ++ rl), true, jrn sl, w, rl.map chg) := fil_one _ _
    rw [if_pos ⟨rfl, ht⟩, hf]
    unfold jf
    rw [← List.append_assoc, jrn_snoc, List.map_append]
    simp [mput, chg]
theorem JS.sync {fs : DF} {p : List UInt8} {sl rl : List Ent} (h : JS fs p sl rl) (hv : validB p = true) : ∃ fs2, dsync fs p = (.ok, fs2) ∧ JS fs2 p (sl ++ rl) [] := by
  unfold dsync
  rw [if_neg (by rw [hv]; simp)]
  refine ⟨_, rfl, ?_⟩
  rcases h with ⟨rfl, rfl, rfl⟩ | ⟨w, rfl, hw⟩
  · exact .inl ⟨rfl, rfl, rfl⟩
  · refine .inr ⟨true, ?_, fun h => by cases h⟩
    have hf : fil (jf p sl rl w) p = (jrn (sl ++ rl), true, jrn sl, w, rl.map chg) := fil_one _ _
    have hs : (mget (jf p sl rl w) p).isSome = true := by simp [jf, mget]
    rw [if_pos hs, hf]
    unfold jf
    simp [mput]
/-! ### risen -/
theorem riseP_jn (cut : Int) : ∀ (rl : List Ent) (k : Nat) (sl : List Ent) (b : Bool), (∀ e ∈ rl, Ok32 e) → ∃ (m : Nat) (part : List UInt8) (b' : Bool), m ≤ rl.length ∧ part.length < 195 ∧ riseP cut k (rl.map chg) (jrn sl) b = (jrn (sl ++ rl.take m) ++ part, b') ∧ (b' = false → b = false ∧ m = 0 ∧ part = [])
  | [], k, sl, b, _ => ⟨0, [], b, Nat.le_refl _, by simp, by cases k <;> simp [riseP], fun h => ⟨h, rfl, rfl⟩⟩
  | e :: rl, 0, sl, b, ho => by
    have he := recP_len (ho e List.mem_cons_self)
    show ∃ (m : Nat) (part : List UInt8) (b' : Bool), m ≤ (e :: rl).length ∧ part.length < 195 ∧ (if (chg e).1 = 1 ∧ 0 < cutN (chg e) cut then (jrn sl ++ (chg e).2.take (cutN (chg e) cut).toNat, true) else (jrn sl, b)) = _ ∧ _
    have hc : cutN (chg e) cut ≤ 194 := by
      unfold cutN chg
      dsimp only
      rw [he]
      split <;> omega
    by_cases h : (chg e).1 = 1 ∧ 0 < cutN (chg e) cut
    · rw [if_pos h]
      exact ⟨0, (chg e).2.take (cutN (chg e) cut).toNat, true, by omega, by rw [List.length_take]; omega, by simp, fun h => by cases h⟩
    · rw [if_neg h]
      exact ⟨0, [], b, by omega, by simp, by simp, fun h => ⟨h, rfl, rfl⟩⟩
  | e :: rl, k + 1, sl, b, ho => by
    obtain ⟨m, part, b', h1, h2, h3, h4⟩ := riseP_jn cut rl k (sl ++ [e]) true fun x hx => ho x (List.mem_cons_of_mem _ hx)
    refine ⟨m + 1, part, b', by rw [List.length_cons]; omega, h2, ?_, fun h => (by have := (h4 h).1; cases this)⟩
    show riseP cut k (rl.map chg) (jrn sl ++ recP e) true = _
    rw [← jrn_snoc, h3, List.append_assoc]
    rfl
theorem JS.rise {fs : DF} {p : List UInt8} {sl rl : List Ent} (h : JS fs p sl rl) (ho : ∀ x ∈ sl ++ rl, Ok32 x) (hl : (sl ++ rl).length ≤ 100) (cut keep : Int) : ∃ (m : Nat) (part : List UInt8), m ≤ rl.length ∧ part.length < 195 ∧ dtext (riseAll cut (sortB (fs.map (·.1))) keep fs) p = jrn (sl ++ rl.take m) ++ part ∧ (riseAll cut (sortB (fs.map (·.1))) keep fs).length ≤ 1 ∧ (fil (riseAll cut (sortB (fs.map (·.1))) keep fs) p).1.length ≤ 100000 ∧ (fil (riseAll cut (sortB (fs.map (·.1))) keep fs) p).2.2.2.2 = [] := by
  rcases h with ⟨rfl, rfl, rfl⟩ | ⟨w, rfl, hw⟩
  · have e : sortB ((([] : DF)).map (·.1)) = [] := by unfold sortB; simp
    rw [e]
    exact ⟨0, [], Nat.le_refl _, by simp, rfl, by simp [riseAll], by simp [riseAll, fil, mget, fz], rfl⟩
  · have e : sortB ((jf p sl rl w).map (·.1)) = [p] := sort1 p
    have hf : fil (jf p sl rl w) p = (jrn (sl ++ rl), true, jrn sl, w, rl.map chg) := fil_one _ _
    have hput : ∀ x : Fil, mput (jf p sl rl w) p x = [(p, x)] := fun x => by simp [jf, mput]
    rw [e, riseAll_cons, hf]
    by_cases h0 : rl = []
    · subst h0
      rw [if_pos (by rfl), hput]
      have hj := jrn_len ho
      refine ⟨0, [], Nat.le_refl _, by simp, ?_, Nat.le_refl _, ?_, ?_⟩
      · show dtext [(p, _)] p = _
        unfold dtext thereB
        rw [fil_one, if_pos rfl]; simp
      · show (fil [(p, _)] p).1.length ≤ _
        rw [fil_one]
        show (jrn (sl ++ [])).length ≤ _
        rw [hj]; omega
      · show (fil [(p, _)] p).2.2.2.2 = _
        rw [fil_one]
    · rw [if_neg (by simpa using h0), hput]
      obtain ⟨m, part, b', h1, h2, h3, h4⟩ := riseP_jn cut rl (keep % 4).toNat sl w fun x hx => ho x (List.mem_append_right _ hx)
      have hj := jrn_len (l := sl ++ rl.take m) fun x hx => ho x (by
        rcases List.mem_append.1 hx with h | h
        · exact List.mem_append_left _ h
        · exact List.mem_append_right _ (List.mem_of_mem_take h))
      rw [List.length_append] at hl
      refine ⟨m, part, h1, h2, ?_, Nat.le_refl _, ?_, ?_⟩
      · show dtext [(p, _)] p = _
        unfold dtext thereB
        rw [fil_one]
        dsimp only
        rw [h3]
        cases b' with
        | true => rw [if_pos rfl]
        | false =>
          obtain ⟨g1, g2, g3⟩ := h4 rfl
          rw [if_neg (by simp), hw g1, g2, g3]; rfl
      · show (fil [(p, _)] p).1.length ≤ _
        rw [fil_one]
        dsimp only
        rw [h3]
        show (jrn (sl ++ rl.take m) ++ part).length ≤ _
        rw [List.length_append, hj, List.length_append, List.length_take]; omega
      · show (fil [(p, _)] p).2.2.2.2 = _
        rw [fil_one]
/-! ### the chapter's example -/
theorem dcall0 (ops : Int) : dcall ops 0 false = (.ok, ops + 1, 0, false) := by simp [dcall]
theorem js_nil (p : List UInt8) : JS [] p [] [] := .inl ⟨rfl, rfl, rfl⟩
theorem open_js {fs : DF} {p : List UInt8} {ops : Int} {sl rl : List Ent} {K0 : Er → DF → Int → Int → Bool → Prop} {K : List UInt8 → List Ent → Er → DF → Int → Int → Bool → Prop} (hj : JS fs p sl rl) (ho : ∀ x ∈ sl ++ rl, Ok32 x) (hl : (sl ++ rl).length ≤ 100) (hp : p.length ≤ 1000) (hv : validB p = true) (h0 : 0 ≤ ops) (h1 : ops ≤ 1000000)
    (h : ∀ ops', ops ≤ ops' → ops' ≤ ops + 3 → K p (layE (sl ++ rl) []) .ok fs ops' 0 false) : M_cache_Open fs ops 0 false p K0 K := by
  have h3 := hj.len
  have h4 := jrn_len ho
  have ht := hj.text
  have hr : readP (dtext fs p) = sl ++ rl := by
    have := readP_jrn [] ho
    rw [List.append_nil, readP_short (s := []) (by simp), List.append_nil] at this
    rw [ht, this]
  have hop : openF fs p = fs := by
    unfold openF
    rw [hr, ht, h4, if_neg (by omega)]
  rw [List.length_append] at hl h4
  refine open0_M hp hv h0 h1 (by omega) (by rw [ht]; omega) (by rw [hj.fil1]; omega) (by rw [hj.since, List.length_map]; omega) fun ops' g1 g2 => ?_
  rw [hr, hop]
  exact h ops' g1 g2
theorem cfirst_M {K : Bool → Prop} (h : K true) : M_smithylaw25_first K := by
  have vj : validB ([106] : List UInt8) = true := by decide +kernel
  refine new0_M ⟨fun h => absurd rfl h, fun _ => ?_⟩
  refine open_js (js_nil _) (by simp) (by simp) (by simp) vj (by omega) (by omega) fun ops o0 o1 => ⟨fun h => absurd rfl h, fun _ => ?_⟩
  refine src_M (by simp) (src_M (by simp) ?_)
  have oe : Ok32 (shaS [97], shaS [98]) := ⟨shaS_len _, shaS_len _⟩
  obtain ⟨fs2, hd, hj⟩ := (js_nil [106]).put (e := (shaS [97], shaS [98])) vj (by simp) oe (by simp)
  have ho : ∀ x ∈ ([] : List Ent) ++ ([] ++ [(shaS [97], shaS [98])]), Ok32 x := by simpa using oe
  have hlen := jrn_len ho
  have hf2 := hj.fil1
  have hs2 := hj.since
  have hl2 := hj.len
  refine cput_M (shaS_len _) (shaS_len _) (by simp [layE]) (by simp [layE]) (by omega) (by omega) (by omega) (by simp) (by simp) (by simp [fil, mget, fz]) (by simp [fil, mget, fz]) hd (fun h => (by simp [layE, mget] at h)) fun _ o l' d => ⟨fun e he hn => ?_, fun he => ?_⟩
  · rw [dcall0] at he
    simp only [Prod.mk.injEq] at he
    exact absurd he.1.symm hn
  · rw [dcall0] at he
    simp only [Prod.mk.injEq, true_and] at he
    obtain ⟨rfl, rfl, rfl⟩ := he
    refine src_M (by simp) (src_M (by simp) ?_)
    have hm : mput (layE ([] ++ []) []) (shaS [97]) (shaS [98]) = [(shaS [97], shaS [98])] := rfl
    rw [hm]
    obtain ⟨fs3, hd3, _⟩ := hj.put (e := (shaS [97], shaS [98])) vj ho oe (by simp)
    refine cput_M (shaS_len _) (shaS_len _) (by simp) (by simpa using oe) (by omega) (by omega) (by omega) (by simp) (by omega) (by rw [hf2, hlen]; simp) (by rw [hs2]; simp) hd3 (fun _ => ?_) (fun hne => absurd (by simp [mget]) hne)
    refine dread0_M (by simp [maxLen]) (by omega) (by omega) ?_
    have ht : thereB fs2 [106] = true := by
      rcases hj with ⟨_, _, h⟩ | ⟨w, rfl, _⟩
      · simp at h
      · unfold thereB jf; rw [fil_one]
    rw [hj.text, ht]
    refine ⟨fun b => b = true, ⟨fun _ => ?_, fun hf => ?_⟩, fun q hq => by rw [hq]; exact h⟩
    · show decide _ = true
      simp
    · rw [hlen] at hf
      simp at hf
end Go.Proofs.YtlonpmajnglmoaaDoor


 /- CacheLast, plainly. -/
namespace Go.Proofs.YtlonpmajnglmoaaDoor
open Go Go.RowKit
attribute [local irreducible] shaS manyS hexS Dg recP
theorem wf_in {x : Int} (h : (Lit.int .i64 x).wf = true) : In .i64 x := by simpa [Lit.wf, In, IntKind.min, IntKind.max, IntKind.signed, IntKind.bits] using h
theorem layE_mem : ∀ {l m : List Ent} {e : Ent}, e ∈ layE l m → e ∈ l ∨ e ∈ m
  | [], m, e, h => .inr h
  | x :: l, m, e, h => by
    rcases layE_mem (l := l) (m := mput m x.1 x.2) h with h | h
    · exact .inl (List.mem_cons_of_mem _ h)
    · rcases mput_mem h with h | h
      · exact .inl (by rw [h]; exact List.mem_cons_self)
      · exact .inr h
theorem layE_ok {l : List Ent} (h : ∀ e ∈ l, Ok32 e) : ∀ e ∈ layE l [], Ok32 e := fun e he => by
  rcases layE_mem he with h1 | h1
  · exact h e h1
  · simp at h1
theorem layE_snoc (l : List Ent) (k v : List UInt8) : layE (l ++ [(k, v)]) [] = mput (layE l []) k v := layE_app l [(k, v)] []
def cnt (a : List Int) : Nat → Nat
  | 0 => 0
  | m + 1 => cnt a m + if 0 ≤ a.getD m 0 then 1 else 0
theorem cnt_set {a : List Int} {k : Nat} {v : Int} (hv : 0 ≤ v) : ∀ m, m ≤ a.length → cnt (a.set k v) m = if k < m ∧ ¬ 0 ≤ a.getD k 0 then cnt a m + 1 else cnt a m
  | 0, _ => by rw [if_neg (fun h => absurd h.1 (Nat.not_lt_zero _))]; rfl
  | m + 1, h => by
    have ih := cnt_set (a := a) (k := k) hv m (by omega)
    unfold cnt
    rw [ih]
    by_cases hkm : k = m
    · subst hkm
      rw [getD_setF (show k < a.length by omega), if_pos rfl, if_pos hv, if_neg (fun h => absurd h.1 (Nat.lt_irrefl _))]
      by_cases h0 : 0 ≤ a.getD k 0
      · rw [if_pos h0, if_neg (fun h => h.2 h0)]
      · rw [if_neg h0, if_pos ⟨by omega, h0⟩]
    · have e : (a.set k v).getD m 0 = a.getD m 0 := by
        by_cases hk : k < a.length
        · rw [getD_setF hk, if_neg hkm]
        · rw [List.set_eq_of_length_le (show a.length ≤ k by omega)]
      rw [e]
      by_cases h1 : k < m ∧ ¬ 0 ≤ a.getD k 0
      · have h2 : k < m + 1 ∧ ¬ 0 ≤ a.getD k 0 := ⟨by omega, h1.2⟩
        rw [if_pos h1, if_pos h2]; omega
      · have h2 : ¬ (k < m + 1 ∧ ¬ 0 ≤ a.getD k 0) := fun h2 => h1 ⟨by omega, h2.2⟩
        rw [if_neg h1, if_neg h2]
/-- what the law keeps, and what the cache holds -/
structure LI (last : List Int) (cl log : List Ent) : Prop where
  l4 : last.length = 4
  rng : ∀ k, k < 4 → -1 ≤ last.getD k 0 ∧ last.getD k 0 < 3
  get : ∀ k, k < 4 → mget cl (Dg k) = if last.getD k 0 < 0 then none else some (Dg (last.getD k 0).toNat)
  len : cl.length = cnt last 4
  lay : cl = layE log []
  ok : ∀ e ∈ log, Ok32 e
theorem LI.at {last : List Int} {cl log : List Ent} (h : LI last cl log) {k v : Nat} (hk : k < 4) (hv : v < 3) : mget cl (Dg k) = some (Dg v) ↔ last.getD k 0 = v := by
  have hr := h.rng k hk
  rw [h.get k hk]
  constructor
  · intro e
    by_cases h0 : last.getD k 0 < 0
    · rw [if_pos h0] at e; cases e
    · rw [if_neg h0, Option.some.injEq] at e
      have := Dg_inj (by omega) (by omega) e
      omega
  · intro e
    rw [e, if_neg (by omega), Int.toNat_natCast]
theorem LI.put {last : List Int} {cl log : List Ent} (h : LI last cl log) {k v : Nat} (hk : k < 4) (hv : v < 3) : LI (last.set k v) (mput cl (Dg k) (Dg v)) (log ++ [(Dg k, Dg v)]) := by
  have hl := h.l4
  refine ⟨by rw [List.length_set, hl], fun j hj => ?_, fun j hj => ?_, ?_, ?_, fun e he => ?_⟩
  · rw [getD_setF (by omega)]
    split
    · omega
    · exact h.rng j hj
  · rw [getD_setF (by omega), mget_mput]
    by_cases e : k = j
    · subst e
      rw [if_pos rfl, if_pos rfl, if_neg (by omega), Int.toNat_natCast]
    · rw [if_neg (fun e2 => e (Dg_inj (by omega) (by omega) e2)), if_neg e]
      exact h.get j hj
  · rw [mput_len, h.get k hk, h.len, cnt_set (by omega) 4 (by omega)]
    by_cases h0 : last.getD k 0 < 0
    · have hc : k < 4 ∧ ¬ 0 ≤ last.getD k 0 := ⟨hk, by omega⟩
      rw [if_pos h0, if_pos hc]; rfl
    · have hc : ¬ (k < 4 ∧ ¬ 0 ≤ last.getD k 0) := fun h => h.2 (by omega)
      rw [if_neg h0, if_neg hc]; rfl
  · rw [layE_snoc, ← h.lay]
  · rcases List.mem_append.1 he with he | he
    · exact h.ok e he
    · rw [List.mem_singleton.1 he]; exact ⟨Dg_len _, Dg_len _⟩
end Go.Proofs.YtlonpmajnglmoaaDoor


 /- CacheFalls, plainly. -/
namespace Go.Proofs.YtlonpmajnglmoaaDoor
open Go Go.RowKit
attribute [local irreducible] shaS manyS hexS Dg recP
theorem amongAt_M {l : List Bs} {s : Bs} {K : Int → Prop} (hl : l.length ≤ 1000000000) (h0 : s ∉ l → K (-1)) (h1 : ∀ j : Nat, j < l.length → l.getD j [] = s → K (j : Int)) : M_smithyref_AmongTexts l s K := by
  intro _
  refine ⟨fun i => 0 ≤ i ∧ i ≤ l.length ∧ ∀ j, j < i.toNat → l.getD j [] ≠ s, fun i => l.length - i.toNat, ⟨by omega, by omega, by intro j hj; simp at hj⟩, fun i ⟨a0, a1, a2⟩ => ⟨fun hlt => ⟨by omega, fun he => ?_, fun hne => ⟨by simp only [In]; omega, ⟨by omega, by omega, fun j hj => ?_⟩, by (try dsimp only); omega⟩⟩, fun hge => ?_⟩⟩
  · have := h1 i.toNat (by omega) he
    rwa [show (i.toNat : Int) = i by omega] at this
  · by_cases e : j = i.toNat
    · rw [e]; exact hne
    · exact a2 j (by omega)
  · refine h0 fun hm => ?_
    obtain ⟨j, hj, he⟩ := List.getElem_of_mem hm
    refine a2 j (by omega) ?_
    simp [List.getD, hj, he]
/-! ### tables of names and of their digests -/
def fE (e : Ent) : Ent := (shaS e.1, shaS e.2)
def nE (l : List Int) (i : Nat) : Ent := (nm12 (nix (l.getD i 0)), nm12 (nix (i : Int)))
def nents (l : List Int) (n : Nat) : List Ent := (List.range n).map (nE l)
/-- the names' table when n have been put -/
def Nt (l : List Int) (n : Nat) : List Ent := layE (nents l n) []
/-- the cache's table when n have been put -/
def Ct (l : List Int) (n : Nat) : List Ent := (Nt l n).map fE
theorem Nt_succ (l : List Int) (n : Nat) : Nt l (n + 1) = mput (Nt l n) (nm12 (nix (l.getD n 0))) (nm12 (nix (n : Int))) := by
  unfold Nt nents
  rw [List.range_succ, List.map_append]
  exact layE_snoc _ _ _
theorem Nt_in (l : List Int) : ∀ n, ∀ p ∈ Nt l n, ∃ a b, a < 12 ∧ b < 12 ∧ p = (nm12 a, nm12 b)
  | 0, p, h => by simp [Nt, nents, layE] at h
  | n + 1, p, h => by
    rw [Nt_succ] at h
    rcases mput_mem h with rfl | h
    · exact ⟨_, _, nix_lt _, nix_lt _, rfl⟩
    · exact Nt_in l n p h
theorem Nt_uq (l : List Int) : ∀ n, Uq (Nt l n)
  | 0 => List.nodup_nil
  | n + 1 => by rw [Nt_succ]; exact (Nt_uq l n).put _ _
theorem Nt_len (l : List Int) : ∀ n, (Nt l n).length ≤ n
  | 0 => Nat.le_refl _
  | n + 1 => by
    rw [Nt_succ]
    have := Nt_len l n
    have := mput_len_le (Nt l n) (nm12 (nix (l.getD n 0))) (nm12 (nix (n : Int)))
    omega
theorem nm12_inj {a b : Nat} (ha : a < 12) (hb : b < 12) (h : shaS (nm12 a) = shaS (nm12 b)) : nm12 a = nm12 b := by
  have : Dg a = Dg b := by unfold Dg; exact h
  rw [Dg_inj ha hb this]
theorem Nt_inj (l : List Int) (n : Nat) {a : Nat} (ha : a < 12) : ∀ p ∈ Nt l n, shaS p.1 = shaS (nm12 a) → p.1 = nm12 a := fun p hp h => by
  obtain ⟨b, c, hb, _, rfl⟩ := Nt_in l n p hp
  exact nm12_inj hb ha h
theorem mput_fE {m : List Ent} {k v : List UInt8} (h : ∀ p ∈ m, shaS p.1 = shaS k → p.1 = k) : mput (m.map fE) (shaS k) (shaS v) = (mput m k v).map fE := by
  induction m with
  | nil => rfl
  | cons p m ih =>
    have ih := ih fun q hq => h q (List.mem_cons_of_mem _ hq)
    rw [List.map_cons]
    unfold mput
    by_cases e : p.1 = k
    · have e2 : (fE p).1 = shaS k := by unfold fE; rw [e]
      rw [if_pos e, if_pos e2]; rfl
    · have e2 : ¬ (fE p).1 = shaS k := fun e2 => e (h p List.mem_cons_self e2)
      rw [if_neg e, if_neg e2, List.map_cons, ih]
theorem mget_fE {m : List Ent} {k : List UInt8} (h : ∀ p ∈ m, shaS p.1 = shaS k → p.1 = k) : mget (m.map fE) (shaS k) = (mget m k).map shaS := by
  induction m with
  | nil => rfl
  | cons p m ih =>
    have ih := ih fun q hq => h q (List.mem_cons_of_mem _ hq)
    rw [List.map_cons]
    unfold mget
    by_cases e : p.1 = k
    · have e2 : (fE p).1 = shaS k := by unfold fE; rw [e]
      rw [if_pos e, if_pos e2]; rfl
    · have e2 : ¬ (fE p).1 = shaS k := fun e2 => e (h p List.mem_cons_self e2)
      rw [if_neg e, if_neg e2, ih]
theorem Dg_eq (k : Nat) : Dg k = shaS (nm12 k) := by unfold Dg; rfl
theorem Ct_succ (l : List Int) (n : Nat) : Ct l (n + 1) = mput (Ct l n) (Dg (nix (l.getD n 0))) (Dg (nix (n : Int))) := by
  unfold Ct
  rw [Nt_succ, Dg_eq, Dg_eq, mput_fE (Nt_inj l n (nix_lt _))]
theorem mput_eq {m : List Ent} {k v : List UInt8} (h : mget m k = some v) : mput m k v = m := by
  induction m with
  | nil => simp [mget] at h
  | cons p m ih =>
    unfold mget at h
    unfold mput
    by_cases e : p.1 = k
    · rw [if_pos e, Option.some.injEq] at h
      rw [if_pos e, ← e, ← h]
    · rw [if_neg e] at h
      rw [if_neg e, ih h]
/-! ### while the power may fall -/
theorem dcall1 (ops : Int) : dcall ops 1 false = (.e 15, ops + 1, 0, true) := by simp [dcall]
theorem dcall2 {ops left : Int} (h : 1 < left) : dcall ops left false = (.ok, ops + 1, left - 1, false) := by
  unfold dcall
  rw [if_neg (by simp), if_pos (by omega), if_neg (by omega)]
theorem cput_js {fs : DF} {ops left : Int} {p k out : List UInt8} {cl sl rl : List Ent} {K : Er → List UInt8 → List Ent → DF → Int → Int → Bool → Prop} (hv : validB p = true) (hp : p.length ≤ 1000) (hk : k.length = 32) (ho : out.length = 32) (h0 : 0 ≤ ops) (h1 : ops ≤ 1000) (hl0 : 0 < left) (hl1 : left ≤ 1000) (hj : JS fs p sl rl) (hok : ∀ x ∈ sl ++ rl, Ok32 x) (hlen : (sl ++ rl).length ≤ 50) (hcl : cl = layE (sl ++ rl) [])
    (hfail : left = 1 → K (.e 15) p cl fs (ops + 1) 0 true)
    (hgo : ∀ fs' rl' o l', JS fs' p sl rl' → (∀ x ∈ sl ++ rl', Ok32 x) → (sl ++ rl').length ≤ (sl ++ rl).length + 1 → (rl' = rl ∨ rl' = rl ++ [(k, out)]) → mput cl k out = layE (sl ++ rl') [] → ops ≤ o → o ≤ ops + 1 → 0 < l' → l' ≤ left → K .ok p (mput cl k out) fs' o l' false) : M_pcache_Cache_Put fs ops left false p cl k out K := by
  have h3 := hj.len
  have h4 := jrn_len hok
  have h5 := layE_len (sl ++ rl) []
  rw [← hcl] at h5
  simp only [List.length_nil] at h5
  have hoe : Ok32 (k, out) := ⟨hk, ho⟩
  obtain ⟨fs2, hd, hj2⟩ := hj.put (e := (k, out)) hv hok hoe (by omega)
  have hrl : rl.length ≤ 50 := by rw [List.length_append] at hlen; omega
  refine cput_M hk ho (by omega) (by rw [hcl]; exact layE_ok hok) h0 (by omega) (by omega) hp (by omega) (by rw [hj.fil1]; omega) (by rw [hj.since, List.length_map]; omega) hd (fun hm => ?_) (fun hm o l' d => ⟨fun e he hn => ?_, fun he => ?_⟩)
  · have e := mput_eq hm
    have := hgo fs rl ops left hj hok (by omega) (.inl rfl) (by rw [e, hcl]) (by omega) (by omega) hl0 (by omega)
    rwa [e] at this
  · by_cases h1 : left = 1
    · subst h1
      rw [dcall1] at he
      simp only [Prod.mk.injEq] at he
      obtain ⟨rfl, rfl, rfl, rfl⟩ := he
      exact hfail rfl
    · rw [dcall2 (by omega)] at he
      simp only [Prod.mk.injEq] at he
      exact absurd he.1.symm hn
  · by_cases h1 : left = 1
    · subst h1
      rw [dcall1] at he
      simp only [Prod.mk.injEq, reduceCtorEq, false_and] at he
    · rw [dcall2 (by omega)] at he
      simp only [Prod.mk.injEq, true_and] at he
      obtain ⟨rfl, rfl, rfl⟩ := he
      refine hgo fs2 (rl ++ [(k, out)]) (ops + 1) (left - 1) hj2 (fun x hx => ?_) (by simp only [List.length_append, List.length_singleton]; omega) (.inr rfl) ?_ (by omega) (by omega) (by omega) (by omega)
      · rw [← List.append_assoc] at hx
        rcases List.mem_append.1 hx with hx | hx
        · exact hok x hx
        · rw [List.mem_singleton.1 hx]; exact hoe
      · rw [← List.append_assoc, layE_snoc, hcl]
theorem csync_js {fs : DF} {ops left : Int} {p : List UInt8} {cl sl rl : List Ent} {K : Er → List UInt8 → List Ent → DF → Int → Int → Bool → Prop} (hv : validB p = true) (hp : p.length ≤ 1000) (h0 : 0 ≤ ops) (h1 : ops ≤ 1000) (hl0 : 0 < left) (hl1 : left ≤ 1000) (hj : JS fs p sl rl)
    (hfail : left = 1 → K (.e 15) p cl fs (ops + 1) 0 true)
    (hgo : ∀ fs', JS fs' p (sl ++ rl) [] → 1 < left → K .ok p cl fs' (ops + 1) (left - 1) false) : M_pcache_Cache_Sync fs ops left false p cl K := by
  refine sync_M (by omega) h0 (by omega) (by omega) fun o l' d => ⟨fun e he hn => ?_, fun he => ?_⟩
  · by_cases h1 : left = 1
    · subst h1
      rw [dcall1] at he
      simp only [Prod.mk.injEq] at he
      obtain ⟨rfl, rfl, rfl, rfl⟩ := he
      exact hfail rfl
    · rw [dcall2 (by omega)] at he
      simp only [Prod.mk.injEq] at he
      exact absurd he.1.symm hn
  · by_cases h1 : left = 1
    · subst h1
      rw [dcall1] at he
      simp only [Prod.mk.injEq, reduceCtorEq, false_and] at he
    · rw [dcall2 (by omega)] at he
      simp only [Prod.mk.injEq, true_and] at he
      obtain ⟨rfl, rfl, rfl⟩ := he
      obtain ⟨fs2, hd, hj2⟩ := hj.sync hv
      rw [hd]
      exact hgo fs2 hj2 (by omega)
/-- whatever rises of what was not let last is what some first part of the entries makes -/
def FPp (l : List Int) (sl rl : List Ent) (safe put : Int) : Prop := ∀ m, m ≤ rl.length → ∃ n : Nat, safe ≤ n ∧ (n : Int) ≤ put ∧ layE (sl ++ rl.take m) [] = Ct l n
structure FI (l : List Int) (safe put i : Int) (p : List UInt8) (cl : List Ent) (fs : DF) (ops left : Int) (down : Bool) : Prop where
  i0 : 0 ≤ i
  i1 : i ≤ l.length
  pi : i = put
  s0 : 0 ≤ safe
  s1 : safe ≤ i
  pp : p = [106]
  dn : down = false
  l0 : 0 < left
  l1 : left ≤ 60
  o0 : 0 ≤ ops
  o1 : ops ≤ 10 + 2 * i
  js : ∃ sl rl, JS fs [106] sl rl ∧ (∀ x ∈ sl ++ rl, Ok32 x) ∧ (sl ++ rl).length ≤ i.toNat ∧ cl = layE (sl ++ rl) [] ∧ cl = Ct l i.toNat ∧ FPp l sl rl safe i
structure FE (l : List Int) (safe put : Int) (fs : DF) (ops left : Int) : Prop where
  s0 : 0 ≤ safe
  s1 : safe ≤ put
  p1 : put ≤ l.length
  o0 : 0 ≤ ops
  o1 : ops ≤ 200
  l1 : left ≤ 60
  js : ∃ sl rl, JS fs [106] sl rl ∧ (∀ x ∈ sl ++ rl, Ok32 x) ∧ (sl ++ rl).length ≤ 50 ∧ FPp l sl rl safe put
theorem FPp.more {l : List Int} {sl rl : List Ent} {safe i : Int} (h : FPp l sl rl safe i) : FPp l sl rl safe (i + 1) := fun m hm => by
  obtain ⟨n, h1, h2, h3⟩ := h m hm
  exact ⟨n, h1, by omega, h3⟩
theorem FPp.snoc {l : List Int} {sl rl : List Ent} {e : Ent} {safe i : Int} (h : FPp l sl rl safe i) (hi : 0 ≤ i) (hs : safe ≤ i) (hc : layE (sl ++ (rl ++ [e])) [] = Ct l (i.toNat + 1)) : FPp l sl (rl ++ [e]) safe (i + 1) := fun m hm => by
  rw [List.length_append, List.length_singleton] at hm
  by_cases hm2 : m ≤ rl.length
  · obtain ⟨n, h1, h2, h3⟩ := h m hm2
    exact ⟨n, h1, by omega, by rw [List.take_append_of_le_length hm2]; exact h3⟩
  · refine ⟨i.toNat + 1, by omega, by omega, ?_⟩
    rw [List.take_of_length_le (by rw [List.length_append, List.length_singleton]; omega)]
    exact hc
theorem JS.small {fs : DF} {p : List UInt8} {sl rl : List Ent} (h : JS fs p sl rl) (ho : ∀ x ∈ sl ++ rl, Ok32 x) (hl : (sl ++ rl).length ≤ 100) (k : List UInt8) : SmallF (fil fs k) := by
  have hz : SmallF fz := ⟨by simp [fz], by simp [fz], by simp [fz]⟩
  rcases h with ⟨rfl, rfl, rfl⟩ | ⟨w, rfl, _⟩
  · exact hz
  · by_cases e : p = k
    · subst e
      unfold jf
      rw [fil_one]
      rw [List.length_append] at hl
      refine ⟨?_, by simp; omega, fun c hc => ?_⟩
      · show (jrn sl).length ≤ _
        rw [jrn_len fun x hx => ho x (List.mem_append_left _ hx)]; omega
      · obtain ⟨x, hx, rfl⟩ := List.mem_map.1 hc
        show (recP x).length ≤ _
        rw [recP_len (ho x (List.mem_append_right _ hx))]; omega
    · have : fil (jf p sl rl w) k = fz := by
        unfold fil jf mget
        rw [if_neg e]; rfl
      rw [this]; exact hz
theorem openF_text {fs : DF} {p : List UInt8} {L : List Ent} {part : List UInt8} (ho : ∀ x ∈ L, Ok32 x) (hp : part.length < 195) (ht : dtext fs p = jrn L ++ part) : readP (dtext fs p) = L ∧ dtext (openF fs p) p = jrn L ∧ (openF fs p).length ≤ fs.length + 1 ∧ ((fil (openF fs p) p).1 = jrn L ∨ openF fs p = fs) ∧ ((fil (openF fs p) p).2.2.2.2 = [] ∨ openF fs p = fs) := by
  have hr : readP (dtext fs p) = L := by
    rw [ht, readP_jrn part ho, readP_short hp, List.append_nil]
  have hj := jrn_len ho
  refine ⟨hr, ?_⟩
  unfold openF
  rw [hr]
  by_cases hc : 195 * L.length < (dtext fs p).length
  · have htk : (dtext fs p).take (195 * L.length) = jrn L := by rw [ht, List.take_left' hj]
    rw [if_pos hc, htk]
    refine ⟨?_, ?_, .inl ?_, .inl ?_⟩
    · unfold dtext thereB; rw [fil_put, if_pos rfl, if_pos rfl]
    · rw [mput_len]; split <;> omega
    · rw [fil_put, if_pos rfl]
    · rw [fil_put, if_pos rfl]
  · rw [if_neg hc]
    refine ⟨?_, by omega, .inr rfl, .inr rfl⟩
    rw [ht] at hc ⊢
    rw [List.length_append, hj] at hc
    rw [List.eq_nil_of_length_eq_zero (show part.length = 0 by omega), List.append_nil]
end Go.Proofs.YtlonpmajnglmoaaDoor


 /- CacheFalls, plainly: the law. -/
namespace Go.Proofs.YtlonpmajnglmoaaDoor
open Go Go.RowKit
attribute [local irreducible] shaS manyS hexS Dg recP
theorem Ct_ok (l : List Int) (n : Nat) : ∀ e ∈ Ct l n, Ok32 e := fun e he => by
  obtain ⟨x, _, rfl⟩ := List.mem_map.1 he
  exact ⟨shaS_len _, shaS_len _⟩
theorem Ct_len (l : List Int) (n : Nat) : (Ct l n).length = (Nt l n).length := List.length_map _
theorem Ct_get {l : List Int} {n j : Nat} (hj : j < (Nt l n).length) {a b : Nat} (ha : a < 12) (e : (Nt l n)[j] = (nm12 a, nm12 b)) : mget (Ct l n) (Dg a) = some (Dg b) := by
  have hm : (nm12 a, nm12 b) ∈ Nt l n := by rw [← e]; exact List.getElem_mem hj
  unfold Ct
  rw [Dg_eq, Dg_eq, mget_fE (Nt_inj l n ha), (mget_mem (Nt_uq l n)).2 hm]
  rfl
theorem falls_ok {l : List Int} {synced fall keep cut : Int} {K : Bool → Prop} (hin : ∀ x ∈ l, (Lit.int .i64 x).wf = true) (hsy : In .i64 synced) (hfa : In .i64 fall) (hke : In .i64 keep) (_ : In .i64 cut) (H : K true) : M_smithylaw25_CacheFalls l synced fall keep cut K := by
  have vj : validB ([106] : List UInt8) = true := by decide +kernel
  intro _
  refine cfirst_M ⟨fun h => by simp at h, fun _ => ⟨fun _ => H, fun h40 => ?_⟩⟩
  have hl40 : l.length ≤ 40 := by
    rw [Bool.or_eq_false_iff, decide_eq_false_iff_not] at h40; omega
  have hx : ∀ i : Nat, i < l.length → In .i64 (l.getD i 0) := fun i hi => by
    rw [show l.getD i 0 = l[i] by simp [List.getD, hi]]
    exact wf_in (hin _ (List.getElem_mem hi))
  refine new0_M ⟨fun h => absurd rfl h, fun _ => ?_⟩
  refine open_js (js_nil _) (by simp) (by simp) (by simp) vj (by omega) (by omega) fun ops o0 o1 => ⟨fun h => absurd rfl h, fun _ => ?_⟩
  refine numR_M hsy (by omega) (by omega) fun sy s0 s1 => ⟨by simp only [In]; omega, numR_M hfa (by omega) (by omega) fun fa f0 f1 => ⟨by simp only [In]; omega, ?_⟩⟩
  unfold M_pdisk_Disk_Arm
  rw [if_neg (by omega : ¬ fa + 1 < 0)]
  refine ⟨fun safe put fs ops left down => FE l safe put fs ops left, ⟨fun safe put i p cl fs ops left down => FI l safe put i p cl fs ops left down, fun _ _ i _ _ _ _ _ _ => l.length - i.toNat, ?_, fun safe put i p cl fs ops left down a => ⟨fun hlt => ?_, fun hge => ?_⟩⟩, fun safe put fs ops left down a => ⟨?_, ?_⟩⟩
  · exact ⟨by omega, by omega, rfl, by omega, by omega, rfl, rfl, by omega, by omega, o0, by omega, [], [], js_nil _, by simp, by simp, rfl, rfl, fun m hm => ⟨0, by omega, by omega, by simp [layE, Ct, Nt, nents]⟩⟩
  · obtain ⟨b0, b1, b2, b3, b4, b5, b6, b7, b8, b9, b10, sl, rl, c1, c2, c3, c4, c5, c6⟩ := a
    subst b2; subst b5; subst b6
    have hi : i.toNat < l.length := by omega
    have hii : (i.toNat : Int) = i := by omega
    have hi1 : (i + 1).toNat = i.toNat + 1 := by omega
    have hci : Ct l (i.toNat + 1) = mput cl (Dg (nix (l.getD i.toNat 0))) (Dg (nix i)) := by rw [Ct_succ, hii, ← c5]
    refine ⟨fun safe' fs ops left down p cl => FI l safe' (i + 1) (i + 1) p cl fs ops left down, ⟨⟨b0, hlt⟩, name_M (hx _ hi) (srcN_M (name_M (by simp only [In]; omega) (srcN_M ?_)))⟩, fun safe' fs ops left down p cl a => ⟨by simp only [In]; omega, a, by (try dsimp only); omega⟩⟩
    refine cput_js vj (by simp) (Dg_len _) (Dg_len _) b9 (by omega) b7 (by omega) c1 c2 (by omega) c4 (fun _ => ⟨fun _ => ?_, fun h => (by cases h)⟩) (fun fs' rl' o l' d1 d2 d3 d4 d5 d6 d7 d8 d9 => ⟨fun h => absurd rfl h, fun _ => ?_⟩)
    · exact ⟨b3, b4, by omega, by omega, by omega, by omega, sl, rl, c1, c2, by omega, c6⟩
    · have hF : FPp l sl rl' safe (i + 1) := by
        rcases d4 with rfl | rfl
        · exact c6.more
        · exact c6.snoc b0 b4 (by rw [hci, d5])
      refine ⟨by simp only [In]; omega, ⟨by omega, by omega⟩, fun hmod => ?_, fun _ => ?_⟩
      · refine csync_js vj (by simp) (by omega) (by omega) d8 (by omega) d1 (fun _ => ⟨fun _ => ?_, fun h => (by cases h)⟩) (fun fs2 e1 e2 => ⟨fun h => absurd rfl h, fun _ => ?_⟩)
        · exact ⟨b3, by omega, by omega, by omega, by omega, by omega, sl, rl', d1, d2, by omega, hF⟩
        · refine ⟨by omega, by omega, rfl, by omega, by omega, rfl, rfl, by omega, by omega, by omega, by omega, sl ++ rl', [], e1, by simpa using d2, by rw [List.append_nil]; omega, by rw [List.append_nil, d5], by rw [hi1, hci], fun m hm => ⟨i.toNat + 1, by omega, by omega, ?_⟩⟩
          rw [List.take_nil, List.append_nil, hci, d5]
      · exact ⟨by omega, by omega, rfl, b3, by omega, rfl, rfl, d8, by omega, by omega, by omega, sl, rl', d1, d2, by omega, d5, by rw [hi1, hci], hF⟩
  · obtain ⟨b0, b1, b2, b3, b4, b5, b6, b7, b8, b9, b10, sl, rl, c1, c2, c3, c4, c5, c6⟩ := a
    subst b2
    exact ⟨b3, b4, b1, b9, by omega, b8, sl, rl, c1, c2, by omega, c6⟩
  · have := a.s0
    have := a.s1
    have := a.p1
    simp only [In]; omega
  · obtain ⟨e0, e1, e2, e3, e4, e5, sl, rl, g1, g2, g3, g4⟩ := a
    refine ⟨fun fs' ops' left' down' => fs' = fs ∧ 0 ≤ ops' ∧ ops' ≤ 300 ∧ down' = true, ⟨fun hd => ?_, fun hd => ⟨rfl, by omega, by omega, by simpa using hd⟩⟩, fun fs' ops' left' down' ⟨k1, k2, k3, k4⟩ => ?_⟩
    · have : down = false := by simpa using hd
      subst this
      show M_pdisk_Disk_List fs ops (if (1 : Int) < 0 then 0 else 1) false _
      rw [if_neg (by omega : ¬ (1 : Int) < 0)]
      refine dlist_M e3 (by omega) (by omega) (by have := g1.len; omega) fun o l' d => ⟨fun e he hn => ?_, fun he => ?_⟩
      · rw [dcall1] at he
        simp only [Prod.mk.injEq] at he
        obtain ⟨rfl, rfl, rfl, rfl⟩ := he
        exact ⟨rfl, by omega, by omega, rfl⟩
      · rw [dcall1] at he
        simp only [Prod.mk.injEq, reduceCtorEq, false_and] at he
    · subst k1; subst k4
      have hlen := g1.len
      refine rise_M (by omega) (fun q hq => ?_) hke (g1.small g2 (by omega)) ?_
      · rcases g1 with ⟨rfl, _⟩ | ⟨w, rfl, _⟩
        · simp at hq
        · unfold jf at hq
          rw [List.mem_singleton.1 hq]; simp [maxLen]
      rw [if_pos rfl]
      obtain ⟨m, part, m1, m2, m3, m4, m5, m6⟩ := g1.rise g2 (by omega) (max0 cut) (max0 keep)
      generalize riseAll (max0 cut) (sortB (fs'.map (·.1))) (max0 keep) fs' = fs3 at m3 m4 m5 m6 ⊢
      obtain ⟨n0, n1, n2, n3⟩ := g4 m m1
      have hL : ∀ x ∈ sl ++ rl.take m, Ok32 x := fun x hx => g2 x (by
        rcases List.mem_append.1 hx with h | h
        · exact List.mem_append_left _ h
        · exact List.mem_append_right _ (List.mem_of_mem_take h))
      have hLl : (sl ++ rl.take m).length ≤ 50 := by
        rw [List.length_append] at g3 ⊢
        rw [List.length_take]; omega
      generalize sl ++ rl.take m = L at m3 n3 hL hLl
      have hjl := jrn_len hL
      obtain ⟨r1, r2, r3, r4, r5⟩ := openF_text hL m2 m3
      refine open0_M (by simp) vj k2 (by omega) (by omega) (by rw [m3, List.length_append, hjl]; omega) (by omega) (by rw [m6]; simp) fun ops3 p0 p1 => ⟨fun h => absurd rfl h, fun _ => ?_⟩
      rw [r1, n3]
      generalize hP : (if (l.length : Int) < put + 1 then (l.length : Int) else put + 1) = P
      have hP1 : (n0 : Int) ≤ P := by rw [← hP]; split <;> omega
      have hP2 : P ≤ l.length := by rw [← hP]; split <;> omega
      refine ⟨fun found n => safe ≤ n ∧ (found = true ∨ n ≤ n0), fun _ n => (P + 1 - n).toNat, ⟨by omega, .inr n1⟩, fun found n ⟨q0, q1⟩ => ⟨fun hc => ?_, fun hc => ?_⟩⟩
      · rw [Bool.and_eq_true, decide_eq_true_eq, Bool.not_eq_true'] at hc
        obtain ⟨hc1, hc2⟩ := hc
        subst hc2
        have hn0 : n ≤ n0 := q1.resolve_left (by simp)
        refine ⟨fun keys outs i => 0 ≤ i ∧ i ≤ n ∧ keys = (Nt l i.toNat).map (·.1) ∧ outs = (Nt l i.toNat).map (·.2), fun _ _ i => (n - i).toNat, ⟨by omega, by omega, rfl, rfl⟩, fun keys outs i ⟨t0, t1, t2, t3⟩ => ⟨fun hlt => ?_, fun hge => ?_⟩⟩
        · have hi : i.toNat < l.length := by omega
          have hii : (i.toNat : Int) = i := by omega
          have hi1 : (i + 1).toNat = i.toNat + 1 := by omega
          have hNl := Nt_len l i.toNat
          have hkl : keys.length = (Nt l i.toNat).length := by rw [t2, List.length_map]
          have hol : outs.length = (Nt l i.toNat).length := by rw [t3, List.length_map]
          refine ⟨fun keys2 outs2 => keys2 = (Nt l (i.toNat + 1)).map (·.1) ∧ outs2 = (Nt l (i.toNat + 1)).map (·.2), ⟨⟨t0, by omega⟩, name_M (hx _ hi) (amongAt_M (by omega) (fun hni => ⟨fun _ => ⟨⟨t0, by omega⟩, name_M (hx _ hi) ⟨by simp only [List.length_singleton]; omega, name_M (by simp only [In]; omega) ⟨by simp only [List.length_singleton]; omega, ?_⟩⟩⟩, fun hk => absurd (show (-1 : Int) < 0 by omega) hk⟩) (fun j hj he => ⟨fun hk => absurd hk (by omega), fun _ => name_M (by simp only [In]; omega) ⟨⟨by omega, by omega⟩, ?_⟩⟩))⟩, fun keys2 outs2 ⟨u1, u2⟩ => ⟨by simp only [In]; omega, ⟨by omega, by omega, by rw [hi1]; exact u1, by rw [hi1]; exact u2⟩, by (try dsimp only); omega⟩⟩
          · have hnone : mget (Nt l i.toNat) (nm12 (nix (l.getD i.toNat 0))) = none := mget_none.2 fun p hp e => hni (by rw [t2, ← e]; exact List.mem_map_of_mem hp)
            rw [Nt_succ, mput_new hnone, List.map_append, List.map_append, hii, t2, t3]
            exact ⟨rfl, rfl⟩
          · have hj2 : j < (Nt l i.toNat).length := by omega
            have hk1 : (Nt l i.toNat)[j].1 = nm12 (nix (l.getD i.toNat 0)) := by
              rw [← he, t2]
              simp [List.getD, hj2]
            have hat : (Nt l i.toNat)[j]? = some (nm12 (nix (l.getD i.toNat 0)), (Nt l i.toNat)[j].2) := by
              rw [List.getElem?_eq_getElem hj2, ← hk1]
            rw [Nt_succ, mput_set (Nt_uq l _) hat, List.map_set, List.map_set, hii, Int.toNat_natCast, t2, t3]
            refine ⟨?_, rfl⟩
            have : ((Nt l i.toNat).map (·.1)).set j (nm12 (nix (l.getD i.toNat 0))) = (Nt l i.toNat).map (·.1) := by
              have h3 : j < ((Nt l i.toNat).map (·.1)).length := by rw [List.length_map]; exact hj2
              have h4 : ((Nt l i.toNat).map (·.1))[j] = nm12 (nix (l.getD i.toNat 0)) := by rw [List.getElem_map]; exact hk1
              rw [← h4]
              exact List.set_getElem_self h3
            exact this.symm
        · obtain rfl : i = n := by omega
          have hNl := Nt_len l i.toNat
          have hkl : keys.length = (Nt l i.toNat).length := by rw [t2, List.length_map]
          have hol : outs.length = (Nt l i.toNat).length := by rw [t3, List.length_map]
          refine ⟨fun fits i2 => 0 ≤ i2 ∧ i2 ≤ keys.length ∧ (i = n0 → fits = true), fun _ i2 => (keys.length - i2).toNat, ⟨by omega, by omega, fun hn => ?_⟩, fun fits i2 ⟨v0, v1, v2⟩ => ⟨fun hc => ?_, fun hc => ?_⟩⟩
          · refine decide_eq_true ?_
            rw [Ct_len, hkl, hn, Int.toNat_natCast]
          · rw [Bool.and_eq_true, decide_eq_true_eq] at hc
            have hj2 : i2.toNat < (Nt l i.toNat).length := by omega
            obtain ⟨a, b, ha, hb, hp⟩ := Nt_in l i.toNat _ (List.getElem_mem hj2)
            have hk1 : keys.getD i2.toNat [] = nm12 a := by
              rw [t2]; simp [List.getD, hj2, hp]
            have ho1 : outs.getD i2.toNat [] = nm12 b := by
              rw [t3]; simp [List.getD, hj2, hp]
            have hget : i = n0 → mget (Ct l n0) (Dg a) = some (Dg b) := fun hn => by
              have : n0 = i.toNat := by omega
              rw [this]
              exact Ct_get hj2 ha hp
            rw [hk1, ho1]
            refine ⟨⟨v0, by omega⟩, srcN_M ⟨Dg_len _, fun q => i = n0 → q = true, ⟨fun hs => ⟨⟨v0, by omega⟩, srcN_M (sameSum_M ?_ (Dg_len _) fun hn => ?_)⟩, fun hs hn => ?_⟩, fun q hq => ⟨by simp only [In]; omega, ⟨by omega, by omega, hq⟩, by (try dsimp only); omega⟩⟩⟩
            · obtain ⟨v, hv⟩ := Option.isSome_iff_exists.1 hs
              rw [hv]
              exact (Ct_ok l n0 _ (mget_in hv)).2
            · rw [hget hn]; simp
            · rw [hget hn] at hs; cases hs
          · refine ⟨by simp only [In]; omega, ⟨by omega, ?_⟩, by (try dsimp only); omega⟩
            by_cases hn : i = n0
            · exact .inl (v2 hn)
            · exact .inr (by omega)
      · have hf : found = true := by
          rcases q1 with h | h
          · exact h
          · rw [decide_eq_true (show n ≤ P by omega), Bool.true_and] at hc
            simpa using hc
        subst hf
        have hag : readP (jrn L) = L := by
          have := readP_jrn [] hL
          rwa [List.append_nil, readP_short (s := []) (by simp), List.append_nil] at this
        refine open0_M (by simp) vj (by omega) (by omega) (by omega) (by rw [r2, hjl]; omega) ?_ ?_ fun ops4 w0 w1 => ?_
        · rcases r4 with h | h
          · rw [h, hjl]; omega
          · rw [h]; omega
        · rcases r5 with h | h
          · rw [h]; simp
          · rw [h, m6]; simp
        · rw [r2, hag, n3]
          refine ⟨fun b => b = true, ⟨fun _ => ?_, fun h => (by simp at h)⟩, fun q hq => by rw [hq]; exact H⟩
          show decide (((Ct l n0).length : Int) = (Ct l n0).length) = true
          simp
end Go.Proofs.YtlonpmajnglmoaaDoor


 