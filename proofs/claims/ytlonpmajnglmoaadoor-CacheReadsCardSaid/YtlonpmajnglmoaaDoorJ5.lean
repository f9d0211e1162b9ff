/- Texts of this claim, joined by a program: GCl, KeyB, KeyH, Sha11, PathA, PathB, PathC, Srt, Lin, See, DiskP, DiskQ, GDl, PathD, PathE, PathF, PathG, PathH, DiskL, DiskF, CacheP, CacheQ, CacheL, CacheF, ShaS, CacheR. -/
import Derived.Test.YtlonpmajnglmoaaDoorJ4
import Derived.Lib.Replace
import Derived.Lib.Join
import Derived.Lib.SlicesCompact
import Derived.Sort.Walk0
import Derived.Lib.SplitLaws
import Derived.Lib.Strings
/- Printed by a program (wip/vg): what the functions mean, plainly, and their walks. -/
namespace Go.Proofs.YtlonpmajnglmoaaDoor
open Go Go.RowKit
attribute [local irreducible] WL WC WX WQ WK WJ Yld Eff Ef0 Fn
def M_smithyref17_unhex (s : List UInt8) (K : (List UInt8) → Bool → Prop) : Prop :=
 ((¬ ((s.length : Int) = (64 : Int)) → K (List.replicate 32 0 : List UInt8) false) ∧
 ((s.length : Int) = (64 : Int) → Lp3 (fun (i : Int) (t20 : List UInt8) (out0 : List UInt8) kont1 => ((i < (64 : Int) → (0 ≤ i ∧ i < s.length) ∧
 ∃ J1 : Int → Prop, (((((decide ((48 : Int) ≤ ((s.getD i.toNat 0).toNat : Int))) && (decide (((s.getD i.toNat 0).toNat : Int) ≤ (57 : Int)))) = true → (In .u8 (((s.getD i.toNat 0).toNat : Int) - (48 : Int))) ∧
 J1 (((s.getD i.toNat 0).toNat : Int) - (48 : Int))) ∧
 (((decide ((48 : Int) ≤ ((s.getD i.toNat 0).toNat : Int))) && (decide (((s.getD i.toNat 0).toNat : Int) ≤ (57 : Int)))) = false → ((((decide ((97 : Int) ≤ ((s.getD i.toNat 0).toNat : Int))) && (decide (((s.getD i.toNat 0).toNat : Int) ≤ (102 : Int)))) = true → (In .u8 (((s.getD i.toNat 0).toNat : Int) - (97 : Int))) ∧
 (In .u8 ((((s.getD i.toNat 0).toNat : Int) - (97 : Int)) + (10 : Int))) ∧
 J1 ((((s.getD i.toNat 0).toNat : Int) - (97 : Int)) + (10 : Int))) ∧
 (((decide ((97 : Int) ≤ ((s.getD i.toNat 0).toNat : Int))) && (decide (((s.getD i.toNat 0).toNat : Int) ≤ (102 : Int)))) = false → K (List.replicate 32 0 : List UInt8) false))))) ∧
 (∀ d : Int, J1 d → (0 ≤ i ∧ 0 < (2 : Int) ∧ In .i64 i) ∧
 (0 ≤ i ∧ 0 < (2 : Int) ∧ In .i64 i) ∧
 (0 ≤ i / (2 : Int) ∧ i / (2 : Int) < 32) ∧
 (0 ≤ i / (2 : Int) ∧ i / (2 : Int) < 32) ∧
 (0 ≤ bits .or .u8 (shlV .u8 ((out0.getD ((i / (2 : Int)).toNat) 0).toNat : Int) 4) d ∧ bits .or .u8 (shlV .u8 ((out0.getD ((i / (2 : Int)).toNat) 0).toNat : Int) 4) d ≤ 255) ∧
 (out0.length = 32) ∧
 (In .i64 (i + (1 : Int))) ∧
 kont1 (i + (1 : Int)) t20 (out0.set ((i / (2 : Int)).toNat) (UInt8.ofNat (bits .or .u8 (shlV .u8 ((out0.getD ((i / (2 : Int)).toNat) 0).toNat : Int) 4) d).toNat)))) ∧
 (¬ (i < (64 : Int)) → K out0 true))) (0 : Int) (List.replicate 32 0 : List UInt8) (List.replicate 32 0 : List UInt8)))

def M_smithyref17_Record (e_Key : List UInt8) (e_Out : List UInt8) (K : (List UInt8) → Prop) : Prop :=
 M_smithyref1_Hex e_Key (fun (k : List UInt8) =>
 M_smithyref1_Hex e_Out (fun (o : List UInt8) =>
 (k.length + ([32] : List UInt8).length ≤ 9223372036854775807) ∧
 ((k ++ ([32] : List UInt8)).length + o.length ≤ 9223372036854775807) ∧
 (((k ++ ([32] : List UInt8)) ++ o).length + ([32] : List UInt8).length ≤ 9223372036854775807) ∧
 M_smithyref1_Many ([k, o] : List (List UInt8)) (fun (t19 : List UInt8) =>
 M_smithyref1_Hex t19 (fun (t20 : List UInt8) =>
 ((((k ++ ([32] : List UInt8)) ++ o) ++ ([32] : List UInt8)).length + t20.length ≤ 9223372036854775807) ∧
 (((((k ++ ([32] : List UInt8)) ++ o) ++ ([32] : List UInt8)) ++ t20).length + ([10] : List UInt8).length ≤ 9223372036854775807) ∧
 K (((((k ++ ([32] : List UInt8)) ++ o) ++ ([32] : List UInt8)) ++ t20) ++ ([10] : List UInt8))))))

def M_smithyref17_ReadJournal (text : List UInt8) (K : (List (List UInt8 × List UInt8)) → Int → Prop) : Prop :=
 ∃ J1 : (List (List UInt8 × List UInt8)) → Int → Prop, (Lp2 (fun (l2 : List (List UInt8 × List UInt8)) (at_2 : Int) kont1 => (In .i64 ((text.length : Int) - at_2)) ∧
 (((195 : Int) ≤ ((text.length : Int) - at_2) → (In .i64 (at_2 + (64 : Int))) ∧
 (0 ≤ at_2 ∧ at_2 ≤ at_2 + (64 : Int) ∧ at_2 + (64 : Int) ≤ text.length) ∧
 M_smithyref17_unhex ((text.drop at_2.toNat).take ((at_2 + (64 : Int)).toNat - at_2.toNat)) (fun (t220 : List UInt8) (t221 : Bool) =>
 (In .i64 (at_2 + (65 : Int))) ∧
 (In .i64 (at_2 + (129 : Int))) ∧
 (0 ≤ at_2 + (65 : Int) ∧ at_2 + (65 : Int) ≤ at_2 + (129 : Int) ∧ at_2 + (129 : Int) ≤ text.length) ∧
 M_smithyref17_unhex ((text.drop (at_2 + (65 : Int)).toNat).take ((at_2 + (129 : Int)).toNat - (at_2 + (65 : Int)).toNat)) (fun (t320 : List UInt8) (t321 : Bool) =>
 ∃ J2 : Bool → Prop, (((((!t221) || (!t321)) = true → J2 true) ∧
 (((!t221) || (!t321)) = false → M_smithyref17_Record t220 t320 (fun (t46 : List UInt8) =>
 (In .i64 (at_2 + (195 : Int))) ∧
 (0 ≤ at_2 ∧ at_2 ≤ at_2 + (195 : Int) ∧ at_2 + (195 : Int) ≤ text.length) ∧
 J2 (!decide (t46 = ((text.drop at_2.toNat).take ((at_2 + (195 : Int)).toNat - at_2.toNat)))))))) ∧
 (∀ q2 : Bool, J2 q2 → ((q2 = true → J1 l2 at_2) ∧
 (q2 = false → ((l2.length + (([(t220, t320)] : List (List UInt8 × List UInt8))).length) * 64 ≤ 140737488355328) ∧
 (In .i64 (at_2 + (195 : Int))) ∧
 kont1 (l2 ++ ([(t220, t320)] : List (List UInt8 × List UInt8))) (at_2 + (195 : Int)))))))) ∧
 (¬ ((195 : Int) ≤ ((text.length : Int) - at_2)) → J1 l2 at_2))) [] (0 : Int)) ∧
 (∀ l : List (List UInt8 × List UInt8), ∀ at_ : Int, J1 l at_ → K l at_)

def M_smithylaw25_name (n : Int) (K : (List UInt8) → Prop) : Prop :=
 M_smithyworld_Number n (12 : Int) (fun (t4 : Int) =>
 M_smithyworld_Number n (12 : Int) (fun (t6 : Int) =>
 (In .i64 (t6 + (1 : Int))) ∧
 (0 ≤ t4 ∧ t4 ≤ t6 + (1 : Int) ∧ t6 + (1 : Int) ≤ ([97, 98, 99, 100, 101, 102, 103, 104, 105, 106, 107, 108] : List UInt8).length) ∧
 (([110] : List UInt8).length + ((([97, 98, 99, 100, 101, 102, 103, 104, 105, 106, 107, 108] : List UInt8).drop t4.toNat).take ((t6 + (1 : Int)).toNat - t4.toNat)).length ≤ 9223372036854775807) ∧
 K (([110] : List UInt8) ++ ((([97, 98, 99, 100, 101, 102, 103, 104, 105, 106, 107, 108] : List UInt8).drop t4.toNat).take ((t6 + (1 : Int)).toNat - t4.toNat)))))

def M_smithylaw25_first (K : Bool → Prop) : Prop :=
 M_disk_New [] (fun (t111 : Er) =>
 K false) (fun (t110_files : List (List UInt8 × List UInt8 × Bool × List UInt8 × Bool × List (Int × List UInt8))) (t110_ops : Int) (t110_left : Int) (t110_down : Bool) (t1112 : Er) =>
 ((¬ (t1112 = Er.ok) → K false) ∧
 (t1112 = Er.ok → M_cache_Open t110_files t110_ops t110_left t110_down ([106] : List UInt8) (fun (t221 : Er) (t110_ : List (List UInt8 × List UInt8 × Bool × List UInt8 × Bool × List (Int × List UInt8))) (t110_2 : Int) (t110_3 : Int) (t110_4 : Bool) =>
 K false) (fun (t220_p : List UInt8) (t220_l : List (List UInt8 × List UInt8)) (t2212 : Er) (t110_5 : List (List UInt8 × List UInt8 × Bool × List UInt8 × Bool × List (Int × List UInt8))) (t110_6 : Int) (t110_7 : Int) (t110_8 : Bool) =>
 ((¬ (t2212 = Er.ok) → K false) ∧
 (t2212 = Er.ok → M_key_Source ([97] : List UInt8) (fun (t32 : List UInt8) =>
 M_key_Source ([98] : List UInt8) (fun (t33 : List UInt8) =>
 M_pcache_Cache_Put t110_5 t110_6 t110_7 t110_8 t220_p t220_l t32 t33 (fun (a : Er) (t220_ : List UInt8) (t220_2 : List (List UInt8 × List UInt8)) (t110_9 : List (List UInt8 × List UInt8 × Bool × List UInt8 × Bool × List (Int × List UInt8))) (t110_10 : Int) (t110_11 : Int) (t110_12 : Bool) =>
 M_key_Source ([97] : List UInt8) (fun (t36 : List UInt8) =>
 M_key_Source ([98] : List UInt8) (fun (t37 : List UInt8) =>
 M_pcache_Cache_Put t110_9 t110_10 t110_11 t110_12 t220_ t220_2 t36 t37 (fun (b : Er) (t220_3 : List UInt8) (t220_4 : List (List UInt8 × List UInt8)) (t110_13 : List (List UInt8 × List UInt8 × Bool × List UInt8 × Bool × List (Int × List UInt8))) (t110_14 : Int) (t110_15 : Int) (t110_16 : Bool) =>
 M_pdisk_Disk_Read t110_13 t110_14 t110_15 t110_16 ([106] : List UInt8) (fun (t410 : List UInt8) (t411 : Bool) (t412 : Er) (t110_17 : List (List UInt8 × List UInt8 × Bool × List UInt8 × Bool × List (Int × List UInt8))) (t110_18 : Int) (t110_19 : Int) (t110_20 : Bool) =>
 ∃ J1 : Bool → Prop, ((((((((decide (a = Er.ok)) && (decide (b = Er.ok))) && t411) && (decide (t412 = Er.ok))) && (decide ((t410.length : Int) = (195 : Int)))) = true → M_pcache_Cache_Len t110_17 t110_18 t110_19 t110_20 t220_3 t220_4 (fun (t65 : Int) =>
 J1 (decide (t65 = (1 : Int))))) ∧
 ((((((decide (a = Er.ok)) && (decide (b = Er.ok))) && t411) && (decide (t412 = Er.ok))) && (decide ((t410.length : Int) = (195 : Int)))) = false → J1 false))) ∧
 (∀ q9 : Bool, J1 q9 → K q9))))))))))))))

def M_smithylaw25_same (a : List (List UInt8 × List UInt8)) (b : List (List UInt8 × List UInt8)) (K : Bool → Prop) : Prop :=
 (a.length ≤ maxLen →
 (b.length ≤ maxLen →
 ((¬ ((a.length : Int) = (b.length : Int)) → K false) ∧
 ((a.length : Int) = (b.length : Int) → Lp1 (fun (i : Int) kont1 => ((i < (a.length : Int) → (0 ≤ i ∧ i < (a.length : Nat)) ∧
 (0 ≤ i ∧ i < (b.length : Nat)) ∧
 M_smithyref17_SameSum ((a.getD i.toNat ([], [])).1) ((b.getD i.toNat ([], [])).1) (fun (t27 : Bool) =>
 ∃ J1 : Bool → Prop, ((((!t27) = true → J1 true) ∧
 ((!t27) = false → (0 ≤ i ∧ i < (a.length : Nat)) ∧
 (0 ≤ i ∧ i < (b.length : Nat)) ∧
 M_smithyref17_SameSum ((a.getD i.toNat ([], [])).2) ((b.getD i.toNat ([], [])).2) (fun (t40 : Bool) =>
 J1 (!t40))))) ∧
 (∀ q1 : Bool, J1 q1 → ((q1 = true → K false) ∧
 (q1 = false → (In .i64 (i + (1 : Int))) ∧
 kont1 (i + (1 : Int))))))) ∧
 (¬ (i < (a.length : Int)) → K true))) (0 : Int)))))

def M_smithylaw25_CacheReads (text : List UInt8) (l : List Int) (at_ : Int) (K : Bool → Prop) : Prop :=
 (l.length ≤ maxLen →
 M_smithylaw25_first (fun (ok : Bool) =>
 (((!ok) = true → K false) ∧
 ((!ok) = false → (((((decide ((2000 : Int) < (text.length : Int))) || (decide ((10 : Int) < (l.length : Int)))) || (!ok)) = true → K ok) ∧
 ((((decide ((2000 : Int) < (text.length : Int))) || (decide ((10 : Int) < (l.length : Int)))) || (!ok)) = false → M_cache_Read text (fun (t380 : List (List UInt8 × List UInt8)) (t381 : Int) =>
 M_smithyref17_ReadJournal text (fun (t430 : List (List UInt8 × List UInt8)) (t431 : Int) =>
 ∃ J1 : Bool → Prop, ((((!decide (t381 = t431)) = true → J1 true) ∧
 ((!decide (t381 = t431)) = false → M_smithylaw25_same t380 t430 (fun (t52 : Bool) =>
 J1 (!t52))))) ∧
 (∀ q3 : Bool, J1 q3 → ((q3 = true → K false) ∧
 (q3 = false → Lp3 (fun (s : List UInt8) (want : List (List UInt8 × List UInt8)) (i : Int) kont1 => ((i < (l.length : Int) → (0 ≤ i ∧ i < (l.length : Nat)) ∧
 M_smithylaw25_name (l.getD i.toNat 0) (fun (t65 : List UInt8) =>
 M_key_Source t65 (fun (t66 : List UInt8) =>
 M_smithylaw25_name i (fun (t68 : List UInt8) =>
 M_key_Source t68 (fun (t69 : List UInt8) =>
 (0 ≤ i ∧ i < (l.length : Nat)) ∧
 M_smithylaw25_name (l.getD i.toNat 0) (fun (t75 : List UInt8) =>
 M_smithyref1_Sum t75 (fun (t76 : List UInt8) =>
 M_smithylaw25_name i (fun (t78 : List UInt8) =>
 M_smithyref1_Sum t78 (fun (t79 : List UInt8) =>
 M_cache_Record t66 t69 (fun (t82 : List UInt8) =>
 M_smithyref17_Record t76 t79 (fun (t84 : List UInt8) =>
 ((¬ (t82 = t84) → K false) ∧
 (t82 = t84 → M_cache_Record t66 t69 (fun (t88 : List UInt8) =>
 (s.length + t88.length ≤ 9223372036854775807) ∧
 ((want.length + (([(t76, t79)] : List (List UInt8 × List UInt8))).length) * 64 ≤ 140737488355328) ∧
 (In .i64 (i + (1 : Int))) ∧
 kont1 (s ++ t88) (want ++ ([(t76, t79)] : List (List UInt8 × List UInt8))) (i + (1 : Int)))))))))))))))) ∧
 (¬ (i < (l.length : Int)) → (In .i64 ((s.length : Int) + (1 : Int))) ∧
 M_smithyworld_Number at_ ((s.length : Int) + (1 : Int)) (fun (k : Int) =>
 (0 ≤ k ∧ k ≤ s.length) ∧
 M_cache_Read (s.take k.toNat) (fun (t1030 : List (List UInt8 × List UInt8)) (t1031 : Int) =>
 (0 ≤ k ∧ 0 < (195 : Int) ∧ In .i64 k) ∧
 (In .i64 ((k / (195 : Int)) * (195 : Int))) ∧
 ∃ J2 : Bool → Prop, ((((decide (t1031 = ((k / (195 : Int)) * (195 : Int)))) = true → (0 ≤ k ∧ 0 < (195 : Int) ∧ In .i64 k) ∧
 (0 ≤ k / (195 : Int) ∧ k / (195 : Int) ≤ (want.length : Nat)) ∧
 M_smithylaw25_same t1030 (want.take (k / (195 : Int)).toNat) (fun (t117 : Bool) =>
 J2 t117)) ∧
 ((decide (t1031 = ((k / (195 : Int)) * (195 : Int)))) = false → J2 false))) ∧
 (∀ q4 : Bool, J2 q4 → K q4)))))) ([] : List UInt8) [] (0 : Int))))))))))))

set_option maxHeartbeats 8000000 in
theorem W_smithyref17_unhex {w : World} {s : List UInt8} {K : (List UInt8) → Bool → Prop} (H : M_smithyref17_unhex s K) : Fn Tryd.prog 79 ⟨[vs s]⟩ w (fun v w' => w.grownBy w' none ∧ ∃ (r0 : List UInt8), ∃ (r1 : Bool), v = .tuple #[.agg ⟨a32 r0⟩, .bool r1] ∧ K r0 r1) := by
  unfold M_smithyref17_unhex at H
  refine Fn.enter (by kernel_rfl) Tryd.func79 rfl Tryd.ntmps79 rfl ?_
  refine WC.seq ?_
  refine WC.region ?_
  refine WL.alloc rfl zero73 (fun g1 w1 hB1 hg1 hl1 => ?_)
  rw [a32_zero] at hB1
  have gr1 := hg1
  refine WL.y rfl (Yld.pure tab_ok rfl) ?_
  refine WL.nil (WX.then_normal ?_)
  refine WC.seq ?_
  refine WC.region ?_
  refine WL.alloc rfl zero73 (fun g2 w2 hB2 hg2 hl2 => ?_)
  rw [a32_zero] at hB2
  have gr2 := gr_trans gr1 hg2
  have k1 := hB1.g0 hg2
  refine WL.nil (WX.then_normal ?_)
  refine WC.seq ?_
  refine WC.seq ?_
  refine WC.region ?_
  refine WL.y rfl (Yld.pure tab_ok rfl) ?_
  refine WL.y rfl (Yld.pure tab_ok rfl) ?_
  refine WL.y rfl (Yld.pure tab_ok rfl) ?_
  refine WL.nil (WX.then_normal ?_)
  refine WC.cond rfl (fun b1 => ?_) (fun b1 => ?_)
  · replace H := H.1 (nd_true b1)
    refine WC.seq ?_
    refine WC.region ?_
    refine WL.y rfl (Yld.bagg (vs := (a32 (List.replicate 32 0 : List UInt8))) tab_ok hB2 rfl rfl rfl rfl) ?_
    refine WL.storeW (vs := (a32 (List.replicate 32 0 : List UInt8))) tab_ok rfl rfl rfl (all1a (a32_one _) all1n) k1 rfl rfl (fun w3 hB3 hg3 => ?_)
    have gr3 := gr_mod gr2 hg3 (Ge.le (Ge.box hl1) (Nat.le_refl _))
    refine WL.y rfl (Yld.pure tab_ok rfl) ?_
    refine WL.nil (WX.then_normal ?_)
    refine WC.ret (WX.then_ret ?_)
    exact WX.retct tab_ok rfl rfl rfl hB3 rfl rfl ⟨gr3, (List.replicate 32 0 : List UInt8), false, rfl, H⟩
  · replace H := H.2 (nd_false b1)
    refine WC.skip (WX.then_normal ?_)
    refine WC.seq ?_
    refine WC.seq ?_
    refine WC.region ?_
    refine WL.y rfl (Yld.pure tab_ok rfl) ?_
    refine WL.nil (WX.then_normal ?_)
    refine WC.block ?_
    obtain ⟨I1, mu1, h0_1, HR1⟩ := H
    refine WC.loopF (fun n' L' w' => ∃ (i : Int), ∃ (t20 : List UInt8), ∃ (out0 : List UInt8), n' = mu1 i t20 out0 ∧ L' = [(0, vs s), (2, .pointer (some ⟨g1, 0, none⟩)), (4, .pointer (some ⟨g2, 0, none⟩)), (5, .int .i64 i)] ∧ I1 i t20 out0 ∧ w.grownBy w' none ∧ Bl w' g1 73 (a32 t20) ∧ Bl w' g2 73 (a32 out0) ∧ Dj (some g1) (some g2)) _ _ ⟨(0 : Int), (List.replicate 32 0 : List UInt8), (List.replicate 32 0 : List UInt8), rfl, rfl, h0_1, gr2, k1, hB2, (Dj.new hB1.lt' (Ge.box hl2))⟩ (by repeat (first | exact Sub.nil | refine Sub.cons rfl ?_)) ?_
    clear h0_1
    rintro _ _ w4 ⟨i, t20, out0, rfl, rfl, hI1, gr4, k2, k3, dj1⟩
    have H := HR1 i t20 out0 hI1
    refine WC.seq ?_
    refine WC.seq ?_
    refine WC.region ?_
    refine WL.y rfl (Yld.pure tab_ok rfl) ?_
    refine WL.y rfl (Yld.pure tab_ok rfl) ?_
    refine WL.nil (WX.then_normal ?_)
    refine WC.cond rfl (fun b2 => ?_) (fun b2 => ?_)
    · replace H := H.1 (of_decide_eq_true b2)
      refine WC.skip (WX.then_normal ?_)
      refine WC.seq ?_
      refine WC.block ?_
      refine WC.seq ?_
      refine WC.region ?_
      refine WL.y rfl (Yld.pure tab_ok rfl) ?_
      refine WL.y rfl (Yld.pure tab_ok rfl) ?_
      obtain ⟨h1, H⟩ := H
      refine WL.y rfl (Yld.sidx tab_ok rfl rfl rfl h1.1 h1.2) ?_
      refine WL.y rfl (Yld.pure tab_ok rfl) ?_
      refine WL.nil (WX.then_normal ?_)
      refine WC.seq ?_
      refine WC.region ?_
      refine WL.y rfl (Yld.pure tab_ok rfl) ?_
      refine WL.nil (WX.then_normal ?_)
      refine WC.seq ?_
      obtain ⟨J1, H, hJ1⟩ := H
      refine WC.midF (fun L' w' => ∃ (d : Int), L' = [(0, vs s), (2, .pointer (some ⟨g1, 0, none⟩)), (4, .pointer (some ⟨g2, 0, none⟩)), (5, .int .i64 i), (7, .int .u8 d)] ∧ J1 d ∧ w4 = w') ?_ (fun hQ => ?_)
      · clear H
        rintro _ _ ⟨d, rfl, H, rfl⟩
        replace H := hJ1 d H
        refine WX.then_normal ?_
        refine WC.region ?_
        refine WL.y rfl (Yld.pure tab_ok rfl) ?_
        obtain ⟨h2, H⟩ := H
        refine WL.y rfl (Yld.quo rfl rfl h2.1 h2.2.1 h2.2.2) ?_
        refine WL.y rfl (Yld.pure tab_ok rfl) ?_
        obtain ⟨h3, H⟩ := H
        refine WL.y rfl (Yld.quo rfl rfl h3.1 h3.2.1 h3.2.2) ?_
        obtain ⟨h4, H⟩ := H
        refine WL.y rfl (Yld.aaddr tab_ok rfl rfl rfl h4.1 h4.2) ?_
        refine WL.y rfl (Yld.bload tab_ok k3 rfl rfl (a32_getO _ _ (lt32 h4))) ?_
        refine WL.y rfl (Yld.shl rfl rfl (by omega)) ?_
        refine WL.y rfl (Yld.pure tab_ok rfl) ?_
        refine WL.y rfl (Yld.pure tab_ok rfl) ?_
        obtain ⟨h5, H⟩ := H
        refine WL.y rfl (Yld.aaddr tab_ok rfl rfl rfl h5.1 h5.2) ?_
        obtain ⟨h6, H⟩ := H
        obtain ⟨h7, H⟩ := H
        refine WL.store1 (u := vb (UInt8.ofNat (bits .or .u8 (shlV .u8 ((out0.getD ((i / (2 : Int)).toNat) 0).toNat : Int) 4) d).toNat)) one5 rfl (byte_eq h6) rfl k3 (a32_lt (lt32 h5)) (fun w5 hB4 hg4 => ?_)
        have hB5 : Bl w5 g2 73 (a32 (out0.set ((i / (2 : Int)).toNat) (UInt8.ofNat (bits .or .u8 (shlV .u8 ((out0.getD ((i / (2 : Int)).toNat) 0).toNat : Int) 4) d).toNat))) := a32_setO h7 ▸ hB4
        have gr5 := gr_mod gr4 hg4 (Ge.le (Ge.box hl2) (size_le gr1))
        have k4 := k2.go hg4 dj1
        refine WL.nil (WX.block_normal (WX.then_normal ?_))
        refine WC.region ?_
        refine WL.y rfl (Yld.pure tab_ok rfl) ?_
        obtain ⟨h8, H⟩ := H
        refine WL.y rfl (Yld.add rfl rfl h8) ?_
        refine WL.y rfl (Yld.pure tab_ok rfl) ?_
        refine WL.nil ?_
        exact WX.roundF _ ⟨i + (1 : Int), t20, out0.set ((i / (2 : Int)).toNat) (UInt8.ofNat (bits .or .u8 (shlV .u8 ((out0.getD ((i / (2 : Int)).toNat) 0).toNat : Int) 4) d).toNat), rfl, rfl, H.1, gr5, k4, hB5, dj1⟩ (by repeat (first | exact Sub.nil | refine Sub.cons rfl ?_)) H.2
      · clear hJ1
        refine WC.block ?_
        refine WC.seq ?_
        refine WC.region ?_
        refine WL.y rfl (Yld.pure tab_ok rfl) ?_
        refine WL.y rfl (Yld.pure tab_ok rfl) ?_
        refine WL.y rfl (Yld.pure tab_ok rfl) ?_
        refine WL.midF 3 (fun L' w' => ∃ q1 : Bool, L' = [(26, .bool q1), (0, vs s), (2, .pointer (some ⟨g1, 0, none⟩)), (4, .pointer (some ⟨g2, 0, none⟩)), (5, .int .i64 i), (6, .int .u8 ((s.getD i.toNat 0).toNat : Int))] ∧ ((decide ((48 : Int) ≤ ((s.getD i.toNat 0).toNat : Int))) && (decide (((s.getD i.toNat 0).toNat : Int) ≤ (57 : Int)))) = q1 ∧ w4 = w') ?_ (fun hQ => ?_)
        · rintro _ _ ⟨q1, rfl, rfl, rfl⟩
          refine WL.y rfl (Yld.pure tab_ok rfl) ?_
          refine WL.nil (WX.then_normal ?_)
          refine WC.cond rfl (fun b3 => ?_) (fun b3 => ?_)
          · replace H := H.1 (b3)
            refine WC.region ?_
            refine WL.y rfl (Yld.pure tab_ok rfl) ?_
            obtain ⟨h9, H⟩ := H
            refine WL.y rfl (Yld.sub rfl rfl h9) ?_
            refine WL.y rfl (Yld.pure tab_ok rfl) ?_
            refine WL.nil (WX.block_normal ?_)
            exact WX.weaken (by repeat (first | exact Sub.nil | refine Sub.cons rfl ?_)) (hQ _ _ ⟨((s.getD i.toNat 0).toNat : Int) - (48 : Int), rfl, H, rfl⟩)
          · replace H := H.2 (b3)
            refine WC.seq ?_
            refine WC.region ?_
            refine WL.y rfl (Yld.pure tab_ok rfl) ?_
            refine WL.y rfl (Yld.pure tab_ok rfl) ?_
            refine WL.y rfl (Yld.pure tab_ok rfl) ?_
            refine WL.midF 3 (fun L' w' => ∃ q2 : Bool, L' = [(35, .bool q2), (0, vs s), (2, .pointer (some ⟨g1, 0, none⟩)), (4, .pointer (some ⟨g2, 0, none⟩)), (5, .int .i64 i), (6, .int .u8 ((s.getD i.toNat 0).toNat : Int))] ∧ ((decide ((97 : Int) ≤ ((s.getD i.toNat 0).toNat : Int))) && (decide (((s.getD i.toNat 0).toNat : Int) ≤ (102 : Int)))) = q2 ∧ w4 = w') ?_ (fun hQ => ?_)
            · rintro _ _ ⟨q2, rfl, rfl, rfl⟩
              refine WL.y rfl (Yld.pure tab_ok rfl) ?_
              refine WL.nil (WX.then_normal ?_)
              refine WC.cond rfl (fun b4 => ?_) (fun b4 => ?_)
              · replace H := H.1 (b4)
                refine WC.region ?_
                refine WL.y rfl (Yld.pure tab_ok rfl) ?_
                obtain ⟨h10, H⟩ := H
                refine WL.y rfl (Yld.sub rfl rfl h10) ?_
                obtain ⟨h11, H⟩ := H
                refine WL.y rfl (Yld.add rfl rfl h11) ?_
                refine WL.y rfl (Yld.pure tab_ok rfl) ?_
                refine WL.nil (WX.block_normal ?_)
                exact WX.weaken (by repeat (first | exact Sub.nil | refine Sub.cons rfl ?_)) (hQ _ _ ⟨(((s.getD i.toNat 0).toNat : Int) - (97 : Int)) + (10 : Int), rfl, H, rfl⟩)
              · replace H := H.2 (b4)
                refine WC.seq ?_
                refine WC.region ?_
                refine WL.y rfl (Yld.zarr tab_ok rfl zero73) ?_
                refine WL.storeW (vs := (a32 (List.replicate 32 0 : List UInt8))) tab_ok rfl rfl rfl (all1a (a32_one _) all1n) k2 rfl rfl (fun w6 hB6 hg5 => ?_)
                have gr6 := gr_mod gr4 hg5 (Ge.le (Ge.box hl1) (Nat.le_refl _))
                refine WL.y rfl (Yld.pure tab_ok rfl) ?_
                refine WL.nil (WX.then_normal ?_)
                refine WC.ret (WX.block_ret (WX.then_ret (WX.block_ret (WX.then_ret (WX.then_ret (WX.block_ret (WX.then_ret ?_)))))))
                exact WX.retct tab_ok rfl rfl rfl hB6 rfl rfl ⟨gr6, (List.replicate 32 0 : List UInt8), false, rfl, H⟩
            · clear H
              rcases Bool.eq_false_or_eq_true (decide ((97 : Int) ≤ ((s.getD i.toNat 0).toNat : Int))) with b5 | b5
              · refine WL.gyes rfl rfl (okb b5) rfl (Yld.pure tab_ok rfl) ?_
                refine WL.gyes rfl rfl (okb b5) rfl (Yld.pure tab_ok rfl) ?_
                refine WL.y rfl (Yld.pickT (okb b5) rfl) ?_
                exact WL.weaken (by repeat (first | exact Sub.nil | refine Sub.cons rfl ?_)) (hQ _ _ ⟨decide (((s.getD i.toNat 0).toNat : Int) ≤ (102 : Int)), rfl, by rw [b5] <;> rfl, rfl⟩)
              · refine WL.gno rfl rfl (okb b5) rfl ?_
                refine WL.gno rfl rfl (okb b5) rfl ?_
                refine WL.y rfl (Yld.pickF (okb b5) rfl) ?_
                exact WL.weaken (by repeat (first | exact Sub.nil | refine Sub.cons rfl ?_)) (hQ _ _ ⟨false, rfl, by rw [b5] <;> rfl, rfl⟩)
        · clear H
          rcases Bool.eq_false_or_eq_true (decide ((48 : Int) ≤ ((s.getD i.toNat 0).toNat : Int))) with b6 | b6
          · refine WL.gyes rfl rfl (okb b6) rfl (Yld.pure tab_ok rfl) ?_
            refine WL.gyes rfl rfl (okb b6) rfl (Yld.pure tab_ok rfl) ?_
            refine WL.y rfl (Yld.pickT (okb b6) rfl) ?_
            exact WL.weaken (by repeat (first | exact Sub.nil | refine Sub.cons rfl ?_)) (hQ _ _ ⟨decide (((s.getD i.toNat 0).toNat : Int) ≤ (57 : Int)), rfl, by rw [b6] <;> rfl, rfl⟩)
          · refine WL.gno rfl rfl (okb b6) rfl ?_
            refine WL.gno rfl rfl (okb b6) rfl ?_
            refine WL.y rfl (Yld.pickF (okb b6) rfl) ?_
            exact WL.weaken (by repeat (first | exact Sub.nil | refine Sub.cons rfl ?_)) (hQ _ _ ⟨false, rfl, by rw [b6] <;> rfl, rfl⟩)
    · replace H := H.2 (of_decide_eq_false b2)
      refine WC.exit (WX.then_exit (WX.then_exit (WX.block_same (WX.then_normal ?_))))
      refine WC.seq ?_
      refine WC.region ?_
      refine WL.y rfl (Yld.bagg (vs := (a32 out0)) tab_ok k3 rfl rfl rfl rfl) ?_
      refine WL.storeW (vs := (a32 out0)) tab_ok rfl rfl rfl (all1a (a32_one _) all1n) k2 rfl rfl (fun w7 hB7 hg6 => ?_)
      have gr7 := gr_mod gr4 hg6 (Ge.le (Ge.box hl1) (Nat.le_refl _))
      refine WL.y rfl (Yld.pure tab_ok rfl) ?_
      refine WL.nil (WX.then_normal ?_)
      refine WC.ret ?_
      exact WX.retct tab_ok rfl rfl rfl hB7 rfl rfl ⟨gr7, out0, true, rfl, H⟩

set_option maxHeartbeats 8000000 in
theorem W_smithyref17_Record {w : World} {e_Key : List UInt8} {e_Out : List UInt8} {K : (List UInt8) → Prop} (H : M_smithyref17_Record e_Key e_Out K) : Fn Tryd.prog 43 ⟨[.agg ⟨(a32 e_Key ++ a32 e_Out)⟩]⟩ w (fun v w' => w.grownBy w' none ∧ ∃ (r : List UInt8), v = vs r ∧ K r) := by
  unfold M_smithyref17_Record at H
  refine Fn.enter (by kernel_rfl) Tryd.func43 rfl Tryd.ntmps43 rfl ?_
  refine WC.seq ?_
  refine WC.region ?_
  refine WL.box (us := (a32 e_Key ++ a32 e_Out)) rfl rfl rfl (fun g1 w1 hB1 hg1 hl1 => ?_)
  have gr1 := hg1
  refine WL.y rfl (Yld.pure tab_ok rfl) ?_
  refine WL.nil (WX.then_normal ?_)
  refine WC.seq ?_
  refine WC.region ?_
  refine WL.y rfl (Yld.pure tab_ok rfl) ?_
  refine WL.y rfl (Yld.bagg (vs := (a32 e_Key)) tab_ok hB1 rfl rfl rfl rfl) ?_
  refine WL.call rfl rfl (W_smithyref1_Hex H) ?_
  rintro _ w2 ⟨hg2, k, rfl, H⟩
  have gr2 := gr_trans gr1 hg2
  have k1 := hB1.g0 hg2
  refine WL.y rfl (Yld.pure tab_ok rfl) ?_
  refine WL.nil (WX.then_normal ?_)
  refine WC.seq ?_
  refine WC.region ?_
  refine WL.y rfl (Yld.pure tab_ok rfl) ?_
  refine WL.y rfl (Yld.bagg (vs := (a32 e_Out)) tab_ok k1 rfl rfl rfl rfl) ?_
  refine WL.call rfl rfl (W_smithyref1_Hex H) ?_
  rintro _ w3 ⟨hg3, o, rfl, H⟩
  have gr3 := gr_trans gr2 hg3
  refine WL.y rfl (Yld.pure tab_ok rfl) ?_
  refine WL.nil (WX.then_normal ?_)
  refine WC.seq ?_
  refine WC.region ?_
  refine WL.y rfl (Yld.pure tab_ok rfl) ?_
  obtain ⟨h1, H⟩ := H
  refine WL.y rfl (Yld.sadd rfl rfl h1) ?_
  refine WL.y rfl (Yld.pure tab_ok rfl) ?_
  obtain ⟨h2, H⟩ := H
  refine WL.y rfl (Yld.sadd rfl rfl h2) ?_
  obtain ⟨h3, H⟩ := H
  refine WL.y rfl (Yld.sadd rfl rfl h3) ?_
  refine WL.y rfl (Yld.pure tab_ok rfl) ?_
  refine WL.y rfl (Yld.pure tab_ok rfl) ?_
  refine WL.lit tab_ok rfl rfl rfl (all1c rfl (all1c rfl all1n)) rfl (by omega) (fun g2 w4 hB2 hg4 hl2 => ?_)
  have hO1 : Own vs w4 w.heap.size 9 (some ⟨g2, 0, none⟩) 2 ([k, o] : List (List UInt8)) := Own.ofBl hB2 (Nat.le_trans (size_le gr3) hl2) (by simp [maxLen]) rfl
  have gr4 := gr_trans gr3 hg4
  refine WL.call rfl rfl (W_smithyref1_Many hO1.rd rfl H) ?_
  rintro _ w5 ⟨hg5, t19, rfl, H⟩
  have gr5 := gr_trans gr4 hg5
  refine WL.call rfl rfl (W_smithyref1_Hex H) ?_
  rintro _ w6 ⟨hg6, t20, rfl, H⟩
  have gr6 := gr_trans gr5 hg6
  obtain ⟨h4, H⟩ := H
  refine WL.y rfl (Yld.sadd rfl rfl h4) ?_
  obtain ⟨h5, H⟩ := H
  refine WL.y rfl (Yld.sadd rfl rfl h5) ?_
  refine WL.y rfl (Yld.pure tab_ok rfl) ?_
  refine WL.nil (WX.then_normal ?_)
  refine WC.ret ?_
  exact WX.ret1 rfl rfl ⟨gr6, ((((k ++ ([32] : List UInt8)) ++ o) ++ ([32] : List UInt8)) ++ t20) ++ ([10] : List UInt8), rfl, H⟩

set_option maxHeartbeats 8000000 in
theorem W_smithyref17_ReadJournal {w : World} {text : List UInt8} {K : (List (List UInt8 × List UInt8)) → Int → Prop} (H : M_smithyref17_ReadJournal text K) : Fn Tryd.prog 37 ⟨[vs text]⟩ w (fun v w' => w.grownBy w' none ∧ ∃ (r0 : List (List UInt8 × List UInt8)), ∃ (A_r0 : Option Addr), ∃ (c_r0 : Nat), ∃ (r1 : Int), v = .tuple #[.slice A_r0 r0.length c_r0, .int .i64 r1] ∧ OwnK 64 enc81 w' w.heap.size 81 A_r0 c_r0 r0 ∧ K r0 r1) := by
  unfold M_smithyref17_ReadJournal at H
  refine Fn.enter (by kernel_rfl) Tryd.func37 rfl Tryd.ntmps37 rfl ?_
  refine WC.seq ?_
  refine WC.region ?_
  refine WL.y rfl (Yld.pure tab_ok rfl) ?_
  refine WL.y rfl (Yld.pure tab_ok rfl) ?_
  refine WL.nil (WX.then_normal ?_)
  refine WC.seq ?_
  refine WC.region ?_
  refine WL.y rfl (Yld.pure tab_ok rfl) ?_
  refine WL.nil (WX.then_normal ?_)
  refine WC.seq ?_
  refine WC.region ?_
  refine WL.y rfl (Yld.pure tab_ok rfl) ?_
  refine WL.nil (WX.then_normal ?_)
  refine WC.seq ?_
  obtain ⟨J1, H, hJ1⟩ := H
  refine WC.midF (fun L' w' => ∃ (l : List (List UInt8 × List UInt8)), ∃ (A_l : Option Addr), ∃ (c_l : Nat), ∃ (n_l : Nat), ∃ (at_ : Int), L' = [(4, .slice A_l n_l c_l), (5, .int .i64 at_)] ∧ J1 l at_ ∧ n_l = l.length ∧ w.grownBy w' none ∧ OwnK 64 enc81 w' w.heap.size 81 A_l c_l l) ?_ (fun hQ => ?_)
  · clear H
    rintro _ w1 ⟨l, A_l, c_l, n_l, at_, rfl, H, rfl, gr1, k1⟩
    replace H := hJ1 l at_ H
    refine WX.then_normal ?_
    refine WC.seq ?_
    refine WC.region ?_
    refine WL.y rfl (Yld.pure tab_ok rfl) ?_
    refine WL.y rfl (Yld.pure tab_ok rfl) ?_
    refine WL.y rfl (Yld.pure tab_ok rfl) ?_
    refine WL.y rfl (Yld.pure tab_ok rfl) ?_
    refine WL.nil (WX.then_normal ?_)
    refine WC.ret ?_
    exact WX.ret2 rfl rfl rfl ⟨gr1, l, A_l, c_l, at_, rfl, k1, H⟩
  · clear hJ1
    refine WC.block ?_
    obtain ⟨I1, mu1, h0_1, HR1⟩ := H
    refine WC.loopF (fun n' L' w' => ∃ (l2 : List (List UInt8 × List UInt8)), ∃ (A_l2 : Option Addr), ∃ (c_l2 : Nat), ∃ (n_l2 : Nat), ∃ (at_2 : Int), n' = mu1 l2 at_2 ∧ L' = [(0, vs text), (4, .slice A_l2 n_l2 c_l2), (5, .int .i64 at_2)] ∧ I1 l2 at_2 ∧ n_l2 = l2.length ∧ w.grownBy w' none ∧ OwnK 64 enc81 w' w.heap.size 81 A_l2 c_l2 l2) _ _ ⟨[], none, 0, 0, (0 : Int), rfl, rfl, h0_1, rfl, (gr_refl _ _), (OwnK.nil enc81_ok w w.heap.size 81)⟩ (by repeat (first | exact Sub.nil | refine Sub.cons rfl ?_)) ?_
    clear h0_1
    rintro _ _ w2 ⟨l2, A_l2, c_l2, n_l2, at_2, rfl, rfl, hI1, rfl, gr2, k2⟩
    have H := HR1 l2 at_2 hI1
    refine WC.seq ?_
    refine WC.seq ?_
    refine WC.region ?_
    refine WL.y rfl (Yld.pure tab_ok rfl) ?_
    refine WL.y rfl (Yld.pure tab_ok rfl) ?_
    refine WL.y rfl (Yld.pure tab_ok rfl) ?_
    obtain ⟨h1, H⟩ := H
    refine WL.y rfl (Yld.sub rfl rfl h1) ?_
    refine WL.y rfl (Yld.pure tab_ok rfl) ?_
    refine WL.nil (WX.then_normal ?_)
    refine WC.cond rfl (fun b1 => ?_) (fun b1 => ?_)
    · replace H := H.1 (of_decide_eq_true b1)
      refine WC.skip (WX.then_normal ?_)
      refine WC.block ?_
      refine WC.seq ?_
      refine WC.region ?_
      refine WL.y rfl (Yld.pure tab_ok rfl) ?_
      refine WL.y rfl (Yld.pure tab_ok rfl) ?_
      refine WL.y rfl (Yld.pure tab_ok rfl) ?_
      obtain ⟨h2, H⟩ := H
      refine WL.y rfl (Yld.add rfl rfl h2) ?_
      obtain ⟨h3, H⟩ := H
      refine WL.y rfl (Yld.scut tab_ok rfl rfl rfl rfl h3.1 h3.2.1 h3.2.2) ?_
      refine WL.call rfl rfl (W_smithyref17_unhex H) ?_
      rintro _ w3 ⟨hg1, t220, t221, rfl, H⟩
      have gr3 := gr_trans gr2 hg1
      have k3 := k2.grown hg1
      refine WL.y rfl (Yld.pure tab_ok rfl) ?_
      refine WL.y rfl (Yld.pure tab_ok rfl) ?_
      refine WL.y rfl (Yld.pure tab_ok rfl) ?_
      refine WL.alloc rfl zero73 (fun g1 w4 hB1 hg2 hl1 => ?_)
      rw [a32_zero] at hB1
      have gr4 := gr_trans gr3 hg2
      have k4 := k3.grown hg2
      refine WL.storeW (vs := (a32 t220)) tab_ok rfl rfl rfl (all1a (a32_one _) all1n) hB1 rfl rfl (fun w5 hB2 hg3 => ?_)
      have gr5 := gr_mod gr4 hg3 (Ge.le (Ge.box hl1) (size_le gr3))
      have k5 := k4.go hg3 (Dj.new k3.lt' (Ge.box hl1))
      refine WL.y rfl (Yld.pure tab_ok rfl) ?_
      refine WL.nil (WX.then_normal ?_)
      refine WC.seq ?_
      refine WC.region ?_
      refine WL.y rfl (Yld.pure tab_ok rfl) ?_
      refine WL.y rfl (Yld.pure tab_ok rfl) ?_
      obtain ⟨h4, H⟩ := H
      refine WL.y rfl (Yld.add rfl rfl h4) ?_
      refine WL.y rfl (Yld.pure tab_ok rfl) ?_
      obtain ⟨h5, H⟩ := H
      refine WL.y rfl (Yld.add rfl rfl h5) ?_
      obtain ⟨h6, H⟩ := H
      refine WL.y rfl (Yld.scut tab_ok rfl rfl rfl rfl h6.1 h6.2.1 h6.2.2) ?_
      refine WL.call rfl rfl (W_smithyref17_unhex H) ?_
      rintro _ w6 ⟨hg4, t320, t321, rfl, H⟩
      have gr6 := gr_trans gr5 hg4
      have k6 := k5.grown hg4
      have k7 := hB2.g0 hg4
      refine WL.y rfl (Yld.pure tab_ok rfl) ?_
      refine WL.y rfl (Yld.pure tab_ok rfl) ?_
      refine WL.y rfl (Yld.pure tab_ok rfl) ?_
      refine WL.alloc rfl zero73 (fun g2 w7 hB3 hg5 hl2 => ?_)
      rw [a32_zero] at hB3
      have gr7 := gr_trans gr6 hg5
      have k8 := k6.grown hg5
      have k9 := k7.g0 hg5
      refine WL.storeW (vs := (a32 t320)) tab_ok rfl rfl rfl (all1a (a32_one _) all1n) hB3 rfl rfl (fun w8 hB4 hg6 => ?_)
      have gr8 := gr_mod gr7 hg6 (Ge.le (Ge.box hl2) (size_le gr6))
      have k10 := k8.go hg6 (Dj.new k6.lt' (Ge.box hl2))
      have k11 := k9.go hg6 (Dj.new k7.lt' (Ge.box hl2))
      refine WL.y rfl (Yld.pure tab_ok rfl) ?_
      refine WL.nil (WX.then_normal ?_)
      refine WC.seq ?_
      refine WC.region ?_
      refine WL.y rfl (Yld.bagg (vs := (a32 t220)) tab_ok k11 rfl rfl rfl rfl) ?_
      refine WL.y rfl (Yld.bagg (vs := (a32 t320)) tab_ok hB4 rfl rfl rfl rfl) ?_
      refine WL.y rfl (Yld.struct (us := (a32 t220 ++ a32 t320)) zero81 places81 rfl rfl) ?_
      refine WL.alloc rfl zero81 (fun g3 w9 hB5 hg7 hl3 => ?_)
      have gr9 := gr_trans gr8 hg7
      have k12 := k10.grown hg7
      refine WL.storeW (vs := (a32 t220 ++ a32 t320)) tab_ok rfl rfl rfl (all1a (a32_one _) (all1a (a32_one _) all1n)) hB5 rfl rfl (fun w10 hB6 hg8 => ?_)
      have gr10 := gr_mod gr9 hg8 (Ge.le (Ge.box hl3) (size_le gr8))
      have k13 := k12.go hg8 (Dj.new k10.lt' (Ge.box hl3))
      refine WL.nil (WX.then_normal ?_)
      refine WC.seq ?_
      refine WC.seq ?_
      refine WC.chainF (fun k => !(Nat.beq k 8)) (LD [7] (fun w' => Bl w' g3 81 (a32 t220 ++ a32 t320))) mixed (by kernel_rfl) (fun k w' h _ => (bl_eqv h hB6)) ?_
      refine WJ.y rfl rfl (fun w' hw' => Yld.pure tab_ok rfl) ?_
      refine WJ.y rfl rfl (fun w' hw' => Yld.pure tab_ok rfl) ?_
      refine WJ.y rfl rfl (fun w' hw' => Yld.pure tab_ok rfl) ?_
      refine WJ.midF 3 (fun L' w' => ∃ q1 : Bool, L' = [(43, .bool q1), (0, vs text), (4, .slice A_l2 l2.length c_l2), (5, .int .i64 at_2), (10, .pointer (some ⟨g3, 0, none⟩))] ∧ ((!t221) || (!t321)) = q1 ∧ w10 = w') ?_ (fun hQ => ?_)
      · rintro _ _ ⟨q1, rfl, rfl, rfl⟩
        refine WJ.y rfl rfl (fun w' hw' => Yld.pure tab_ok rfl) ?_
        obtain ⟨J2, H, hJ2⟩ := H
        refine WJ.midF 9 (fun L' w' => ∃ q2 : Bool, L' = [(53, .bool q2), (0, vs text), (4, .slice A_l2 l2.length c_l2), (5, .int .i64 at_2), (10, .pointer (some ⟨g3, 0, none⟩))] ∧ J2 q2 ∧ w.grownBy w' none ∧ OwnK 64 enc81 w' w.heap.size 81 A_l2 c_l2 l2 ∧ Bl w' g3 81 (a32 t220 ++ a32 t320)) ?_ (fun hQ => ?_)
        · clear H
          rintro _ w11 ⟨q2, rfl, H, gr11, k14, k15⟩
          replace H := hJ2 q2 H
          refine WJ.nil (WX.then_normal ?_)
          refine WC.cond rfl (fun b2 => ?_) (fun b2 => ?_)
          · replace H := H.1 (b2)
            refine WC.exit (WX.then_exit (WX.block_other rfl (WX.then_exit (WX.block_same ?_))))
            exact WX.weaken (by repeat (first | exact Sub.nil | refine Sub.cons rfl ?_)) (hQ _ _ ⟨l2, A_l2, c_l2, l2.length, at_2, rfl, H, rfl, gr11, k14⟩)
          · replace H := H.2 (b2)
            refine WC.skip (WX.then_normal ?_)
            refine WC.seq ?_
            refine WC.region ?_
            refine WL.y rfl (Yld.pure tab_ok rfl) ?_
            refine WL.y rfl (Yld.bagg (vs := (a32 t220 ++ a32 t320)) tab_ok k15 rfl rfl rfl rfl) ?_
            refine WL.litK (f := enc81) ([(t220, t320)] : List (List UInt8 × List UInt8)) enc81_ok rfl ow69 rfl rfl rfl (fun g4 w12 hB7 hg9 hl4 => ?_)
            have hO1 : OwnK 64 enc81 w12 w.heap.size 81 (some ⟨g4, 0, none⟩) 1 ([(t220, t320)] : List (List UInt8 × List UInt8)) := OwnK.ofBl enc81_ok hB7 (Nat.le_trans (size_le gr11) hl4) (by simp [maxLen]) rfl
            have gr12 := gr_trans gr11 hg9
            have k16 := k14.grown hg9
            obtain ⟨h7, H⟩ := H
            refine WL.appendK rfl ow69 k16 rfl rfl hO1.rd rfl rfl h7 (applen h7) (size_le gr12) (fun A_l3 c_l3 w13 hO2 hg10 hk1 => ?_)
            have gr13 := gr_mod gr12 hg10 k16.ge'
            refine WL.y rfl (Yld.pure tab_ok rfl) ?_
            refine WL.nil (WX.then_normal ?_)
            refine WC.region ?_
            refine WL.y rfl (Yld.pure tab_ok rfl) ?_
            obtain ⟨h8, H⟩ := H
            refine WL.y rfl (Yld.add rfl rfl h8) ?_
            refine WL.y rfl (Yld.pure tab_ok rfl) ?_
            refine WL.nil (WX.block_normal ?_)
            exact WX.roundF _ ⟨l2 ++ ([(t220, t320)] : List (List UInt8 × List UInt8)), A_l3, c_l3, (l2 ++ ([(t220, t320)] : List (List UInt8 × List UInt8))).length, at_2 + (195 : Int), rfl, rfl, H.1, rfl, gr13, hO2⟩ (by repeat (first | exact Sub.nil | refine Sub.cons rfl ?_)) H.2
        · clear hJ2
          rcases Bool.eq_false_or_eq_true ((!t221) || (!t321)) with b3 | b3
          · replace H := H.1 b3
            refine WJ.no rfl rfl (okb b3) rfl ?_
            refine WJ.no rfl rfl (okb b3) rfl ?_
            refine WJ.no rfl rfl (okb b3) rfl ?_
            refine WJ.no rfl rfl (okb b3) rfl ?_
            refine WJ.no rfl rfl (okb b3) rfl ?_
            refine WJ.no rfl rfl (okb b3) rfl ?_
            refine WJ.no rfl rfl (okb b3) rfl ?_
            refine WJ.no rfl rfl (okb b3) rfl ?_
            refine WJ.y rfl rfl (fun w' hw' => Yld.pickT (okb b3) rfl) ?_
            exact WJ.weaken (by repeat (first | exact Sub.nil | refine Sub.cons rfl ?_)) (hQ _ _ ⟨true, rfl, H, gr10, k13, hB6⟩)
          · replace H := H.2 b3
            refine WJ.yw rfl (wants_some rfl rfl (okb b3)) rfl (fun w' hw' => Yld.bagg (vs := (a32 t220 ++ a32 t320)) tab_ok (hw' rfl) rfl rfl rfl rfl) ?_
            refine WJ.call rfl (wants_some rfl rfl (okb b3)) rfl rfl (W_smithyref17_Record H) (fun v w' h w2 e => DD.keep (Bl.g0 hB6 (gr_eqv h.1 e))) ?_
            rintro _ w14 ⟨hg11, t46, rfl, H⟩
            have gr14 := gr_trans gr10 hg11
            have k17 := k13.grown hg11
            have k18 := hB6.g0 hg11
            refine WJ.yw rfl (wants_some rfl rfl (okb b3)) rfl (fun w' hw' => Yld.pure tab_ok rfl) ?_
            refine WJ.yw rfl (wants_some rfl rfl (okb b3)) rfl (fun w' hw' => Yld.pure tab_ok rfl) ?_
            refine WJ.yw rfl (wants_some rfl rfl (okb b3)) rfl (fun w' hw' => Yld.pure tab_ok rfl) ?_
            obtain ⟨h9, H⟩ := H
            refine WJ.yw rfl (wants_some rfl rfl (okb b3)) rfl (fun w' hw' => Yld.add rfl rfl h9) ?_
            obtain ⟨h10, H⟩ := H
            refine WJ.yw rfl (wants_some rfl rfl (okb b3)) rfl (fun w' hw' => Yld.scut tab_ok rfl rfl rfl rfl h10.1 h10.2.1 h10.2.2) ?_
            refine WJ.yw rfl (wants_some rfl rfl (okb b3)) rfl (fun w' hw' => Yld.pure tab_ok rfl) ?_
            refine WJ.y rfl rfl (fun w' hw' => Yld.pickF (okb b3) rfl) ?_
            exact WJ.weaken (by repeat (first | exact Sub.nil | refine Sub.cons rfl ?_)) (hQ _ _ ⟨!decide (t46 = ((text.drop at_2.toNat).take ((at_2 + (195 : Int)).toNat - at_2.toNat))), rfl, H, gr14, k17, k18⟩)
      · clear H
        rcases Bool.eq_false_or_eq_true (!t221) with b4 | b4
        · refine WJ.no rfl rfl (okb b4) rfl ?_
          refine WJ.no rfl rfl (okb b4) rfl ?_
          refine WJ.y rfl rfl (fun w' hw' => Yld.pickT (okb b4) rfl) ?_
          exact WJ.weaken (by repeat (first | exact Sub.nil | refine Sub.cons rfl ?_)) (hQ _ _ ⟨true, rfl, by rw [b4] <;> rfl, rfl⟩)
        · refine WJ.yw rfl (wants_some rfl rfl (okb b4)) rfl (fun w' hw' => Yld.pure tab_ok rfl) ?_
          refine WJ.yw rfl (wants_some rfl rfl (okb b4)) rfl (fun w' hw' => Yld.pure tab_ok rfl) ?_
          refine WJ.y rfl rfl (fun w' hw' => Yld.pickF (okb b4) rfl) ?_
          exact WJ.weaken (by repeat (first | exact Sub.nil | refine Sub.cons rfl ?_)) (hQ _ _ ⟨!t321, rfl, by rw [b4] <;> rfl, rfl⟩)
    · replace H := H.2 (of_decide_eq_false b1)
      refine WC.exit (WX.then_exit (WX.then_exit (WX.block_same ?_)))
      exact WX.weaken (by repeat (first | exact Sub.nil | refine Sub.cons rfl ?_)) (hQ _ _ ⟨l2, A_l2, c_l2, l2.length, at_2, rfl, H, rfl, gr2, k2⟩)

set_option maxHeartbeats 8000000 in
theorem W_smithylaw25_name {w : World} {n : Int} {K : (List UInt8) → Prop} (H : M_smithylaw25_name n K) : Fn Tryd.prog 40 ⟨[.int .i64 n]⟩ w (fun v w' => w = w' ∧ ∃ (r : List UInt8), v = vs r ∧ K r) := by
  unfold M_smithylaw25_name at H
  refine Fn.enter (by kernel_rfl) Tryd.func40 rfl Tryd.ntmps40 rfl ?_
  refine WC.seq ?_
  refine WC.region ?_
  refine WL.y rfl (Yld.pure tab_ok rfl) ?_
  refine WL.nil (WX.then_normal ?_)
  refine WC.seq ?_
  refine WC.region ?_
  refine WL.y rfl (Yld.pure tab_ok rfl) ?_
  refine WL.call rfl rfl (W_smithyworld_Number H) ?_
  rintro _ _ ⟨rfl, t4, rfl, H⟩
  refine WL.y rfl (Yld.pure tab_ok rfl) ?_
  refine WL.call rfl rfl (W_smithyworld_Number H) ?_
  rintro _ _ ⟨rfl, t6, rfl, H⟩
  obtain ⟨h1, H⟩ := H
  refine WL.y rfl (Yld.add rfl rfl h1) ?_
  obtain ⟨h2, H⟩ := H
  refine WL.y rfl (Yld.scut tab_ok rfl rfl rfl rfl h2.1 h2.2.1 h2.2.2) ?_
  obtain ⟨h3, H⟩ := H
  refine WL.y rfl (Yld.sadd rfl rfl h3) ?_
  refine WL.y rfl (Yld.pure tab_ok rfl) ?_
  refine WL.nil (WX.then_normal ?_)
  refine WC.ret ?_
  exact WX.ret1 rfl rfl ⟨rfl, ([110] : List UInt8) ++ ((([97, 98, 99, 100, 101, 102, 103, 104, 105, 106, 107, 108] : List UInt8).drop t4.toNat).take ((t6 + (1 : Int)).toNat - t4.toNat)), rfl, H⟩

set_option maxHeartbeats 8000000 in
theorem W_smithylaw25_first {S : List Nat} {w : World} {K : Bool → Prop} (hG : GOK S w) (hS9 : 9 ∈ S) (hS11 : 11 ∈ S) (hS12 : 12 ∈ S) (hS15 : 15 ∈ S) (hS100 : 100 ∈ S) (H : M_smithylaw25_first  K) : Fn Tryd.prog 35 ⟨[]⟩ w (fun v w' => w.grownBy w' none ∧ ∃ (r : Bool), v = .bool r ∧ K r) := by
  unfold M_smithylaw25_first at H
  refine Fn.enter (by kernel_rfl) Tryd.func35 rfl Tryd.ntmps35 rfl ?_
  refine WC.seq ?_
  refine WC.region ?_
  refine WL.y rfl (Yld.pure tab_ok rfl) ?_
  refine WL.nil (WX.then_normal ?_)
  refine WC.seq ?_
  refine WC.region ?_
  refine WL.call rfl rfl (W_disk_New hG hS9 hS11 hS100 (OwnK.nil enc43_ok w w.heap.size 43).rd rfl H) ?_
  rintro v_ w1 ⟨hg_, hc_ | hc_⟩
  · obtain ⟨v_t111, t111, rfl, ht111, H⟩ := hc_
    have hg1 := hg_
    have gr1 := hg1
    refine WL.y rfl (Yld.pure tab_ok rfl) ?_
    refine WL.y rfl (Yld.pure tab_ok rfl) ?_
    refine WL.y rfl (Yld.pure tab_ok rfl) ?_
    refine WL.y rfl (Yld.pure tab_ok rfl) ?_
    refine WL.y rfl (Yld.pure tab_ok rfl) ?_
    refine WL.nil (WX.then_normal ?_)
    refine WC.seq ?_
    refine WC.seq ?_
    refine WC.region ?_
    refine WL.y rfl (Yld.pure tab_ok rfl) ?_
    refine WL.y rfl (Yld.peqnil Tryd.underlying39 rfl rfl) ?_
    refine WL.y rfl (Yld.pure tab_ok rfl) ?_
    refine WL.midF 3 (fun L' w' => ∃ q1 : Bool, L' = [(19, .bool q1), (1, .pointer none)] ∧ true = q1 ∧ w1 = w') ?_ (fun hQ => ?_)
    · rintro _ _ ⟨q1, rfl, rfl, rfl⟩
      refine WL.nil (WX.then_normal ?_)
      refine WC.cond rfl (fun _ => ?_) (fun h => by cases h)
      refine WC.seq ?_
      refine WC.region ?_
      refine WL.y rfl (Yld.pure tab_ok rfl) ?_
      refine WL.nil (WX.then_normal ?_)
      refine WC.ret (WX.then_ret ?_)
      exact WX.ret1 rfl rfl ⟨gr1, false, rfl, H⟩
    · clear H
      refine WL.gno rfl rfl (rfl) rfl ?_
      refine WL.gno rfl rfl (rfl) rfl ?_
      refine WL.y rfl (Yld.pickT (rfl) rfl) ?_
      exact WL.weaken (by repeat (first | exact Sub.nil | refine Sub.cons rfl ?_)) (hQ _ _ ⟨true, rfl, rfl, rfl⟩)
  · obtain ⟨g_t110, g_t110_files, hs_t110_files, t110_files, t110_ops, t110_left, t110_down, v_t1112, t1112, rfl, ht1112, ht110_files, hge1, ht110, hge2, dj1, H⟩ := hc_
    have hg2 := hg_
    have gr2 := hg2
    refine WL.y rfl (Yld.pure tab_ok rfl) ?_
    refine WL.y rfl (Yld.pure tab_ok rfl) ?_
    refine WL.y rfl (Yld.pure tab_ok rfl) ?_
    refine WL.y rfl (Yld.pure tab_ok rfl) ?_
    refine WL.y rfl (Yld.pure tab_ok rfl) ?_
    refine WL.nil (WX.then_normal ?_)
    refine WC.seq ?_
    refine WC.seq ?_
    refine WC.region ?_
    refine WL.y rfl (Yld.pure tab_ok rfl) ?_
    refine WL.y rfl (Yld.peqnil Tryd.underlying39 rfl rfl) ?_
    refine WL.y rfl (Yld.pure tab_ok rfl) ?_
    refine WL.midF 3 (fun L' w' => ∃ q2 : Bool, L' = [(19, .bool q2), (1, .pointer (some ⟨g_t110, 0, none⟩))] ∧ (!decide (t1112 = Er.ok)) = q2 ∧ w1 = w') ?_ (fun hQ => ?_)
    · rintro _ _ ⟨q2, rfl, rfl, rfl⟩
      refine WL.nil (WX.then_normal ?_)
      refine WC.cond rfl (fun b1 => ?_) (fun b1 => ?_)
      · replace H := H.1 (nd_true b1)
        refine WC.seq ?_
        refine WC.region ?_
        refine WL.y rfl (Yld.pure tab_ok rfl) ?_
        refine WL.nil (WX.then_normal ?_)
        refine WC.ret (WX.then_ret ?_)
        exact WX.ret1 rfl rfl ⟨gr2, false, rfl, H⟩
      · replace H := H.2 (nd_false b1)
        refine WC.skip (WX.then_normal ?_)
        refine WC.seq ?_
        refine WC.region ?_
        refine WL.y rfl (Yld.pure tab_ok rfl) ?_
        refine WL.call rfl rfl (W_cache_Open (GB.grown hG gr2) (size_le gr2) (apC (Ge.le hge2 (Nat.le_refl _)) (fun p hp => Ge.le (hge1 p hp) (Nat.le_refl _))) hS9 hS11 hS12 hS15 hS100 ht110_files ht110 dj1 H) ?_
        rintro v_ w4 ⟨hg_, hc_ | hc_⟩
        · obtain ⟨v_t221, t221, hs_t110_, t110_, t110_2, t110_3, t110_4, rfl, ht221, hB1, hM1, hi1, dj2, H⟩ := hc_
          have hgl1 := hg_
          have gr3 := gr_modL gr2 hgl1 (apC (Ge.le hge2 (Nat.le_refl _)) (fun p hp => Ge.le (hge1 p hp) (Nat.le_refl _)))
          refine WL.y rfl (Yld.pure tab_ok rfl) ?_
          refine WL.y rfl (Yld.pure tab_ok rfl) ?_
          refine WL.y rfl (Yld.pure tab_ok rfl) ?_
          refine WL.y rfl (Yld.pure tab_ok rfl) ?_
          refine WL.y rfl (Yld.pure tab_ok rfl) ?_
          refine WL.nil (WX.then_normal ?_)
          refine WC.seq ?_
          refine WC.seq ?_
          refine WC.region ?_
          refine WL.y rfl (Yld.pure tab_ok rfl) ?_
          refine WL.y rfl (Yld.peqnil Tryd.underlying85 rfl rfl) ?_
          refine WL.y rfl (Yld.pure tab_ok rfl) ?_
          refine WL.midF 3 (fun L' w' => ∃ q3 : Bool, L' = [(30, .bool q3), (1, .pointer (some ⟨g_t110, 0, none⟩)), (3, .pointer none)] ∧ true = q3 ∧ w4 = w') ?_ (fun hQ => ?_)
          · rintro _ _ ⟨q3, rfl, rfl, rfl⟩
            refine WL.nil (WX.then_normal ?_)
            refine WC.cond rfl (fun _ => ?_) (fun h => by cases h)
            refine WC.seq ?_
            refine WC.region ?_
            refine WL.y rfl (Yld.pure tab_ok rfl) ?_
            refine WL.nil (WX.then_normal ?_)
            refine WC.ret (WX.then_ret ?_)
            exact WX.ret1 rfl rfl ⟨gr3, false, rfl, H⟩
          · clear H
            refine WL.gno rfl rfl (rfl) rfl ?_
            refine WL.gno rfl rfl (rfl) rfl ?_
            refine WL.y rfl (Yld.pickT (rfl) rfl) ?_
            exact WL.weaken (by repeat (first | exact Sub.nil | refine Sub.cons rfl ?_)) (hQ _ _ ⟨true, rfl, rfl, rfl⟩)
        · obtain ⟨g_t220, t220_p, g_t220_l, t220_l, v_t2212, t2212, hs_t110_2, t110_5, t110_6, t110_7, t110_8, rfl, ht2212, ht220_l, hge3, ht220, hge4, dj3, hB2, hM2, hi2, dj4, dj5, dj6, dj7, dj8, H⟩ := hc_
          have hgl2 := hg_
          have gr4 := gr_modL gr2 hgl2 (apC (Ge.le hge2 (Nat.le_refl _)) (fun p hp => Ge.le (hge1 p hp) (Nat.le_refl _)))
          refine WL.y rfl (Yld.pure tab_ok rfl) ?_
          refine WL.y rfl (Yld.pure tab_ok rfl) ?_
          refine WL.y rfl (Yld.pure tab_ok rfl) ?_
          refine WL.y rfl (Yld.pure tab_ok rfl) ?_
          refine WL.y rfl (Yld.pure tab_ok rfl) ?_
          refine WL.nil (WX.then_normal ?_)
          refine WC.seq ?_
          refine WC.seq ?_
          refine WC.region ?_
          refine WL.y rfl (Yld.pure tab_ok rfl) ?_
          refine WL.y rfl (Yld.peqnil Tryd.underlying85 rfl rfl) ?_
          refine WL.y rfl (Yld.pure tab_ok rfl) ?_
          refine WL.midF 3 (fun L' w' => ∃ q4 : Bool, L' = [(30, .bool q4), (1, .pointer (some ⟨g_t110, 0, none⟩)), (3, .pointer (some ⟨g_t220, 0, none⟩))] ∧ (!decide (t2212 = Er.ok)) = q4 ∧ w4 = w') ?_ (fun hQ => ?_)
          · rintro _ _ ⟨q4, rfl, rfl, rfl⟩
            refine WL.nil (WX.then_normal ?_)
            refine WC.cond rfl (fun b2 => ?_) (fun b2 => ?_)
            · replace H := H.1 (nd_true b2)
              refine WC.seq ?_
              refine WC.region ?_
              refine WL.y rfl (Yld.pure tab_ok rfl) ?_
              refine WL.nil (WX.then_normal ?_)
              refine WC.ret (WX.then_ret ?_)
              exact WX.ret1 rfl rfl ⟨gr4, false, rfl, H⟩
            · replace H := H.2 (nd_false b2)
              refine WC.skip (WX.then_normal ?_)
              refine WC.seq ?_
              refine WC.region ?_
              refine WL.y rfl (Yld.pure tab_ok rfl) ?_
              refine WL.call rfl rfl (W_key_Source H) ?_
              rintro _ w7 ⟨hg3, t32, rfl, H⟩
              have gr5 := gr_trans gr4 hg3
              have k1 := hM2.g0 hg3
              have k2 := hB2.g0 hg3
              have k3 := ht220_l.g0 hg3
              have k4 := ht220.g0 hg3
              refine WL.call rfl rfl (W_key_Source H) ?_
              rintro _ w8 ⟨hg4, t33, rfl, H⟩
              have gr6 := gr_trans gr5 hg4
              have k5 := k1.g0 hg4
              have k6 := k2.g0 hg4
              have k7 := k3.g0 hg4
              have k8 := k4.g0 hg4
              refine WL.call rfl rfl (W_pcache_Cache_Put (GB.grown hG gr6) (size_le gr6) (apC (Ge.le hge4 (size_le gr2)) (apC (Ge.le hge3 (size_le gr2)) (apC (Ge.le hge2 (Nat.le_refl _)) (InA.toGe hi2 (apC (Ge.le hge2 (Nat.le_refl _)) (fun p hp => Ge.le (hge1 p hp) (Nat.le_refl _))) (size_le gr2))))) hS9 hS11 hS15 hS100 k5 k6 k7 k8 dj3.symm dj7 dj8 dj5 dj6 dj4 H) ?_
              rintro v_a w9 ⟨hgl3, _, a, t220_, t220_2, hs_t110_3, t110_9, t110_10, t110_11, t110_12, rfl, ha, hB3, hM3, hB4, hM4, hi3, dj9, dj10, dj11, dj12, dj13, dj14, H⟩
              have gr7 := gr_modL gr6 hgl3 (apC (Ge.le hge4 (size_le gr2)) (apC (Ge.le hge3 (size_le gr2)) (apC (Ge.le hge2 (Nat.le_refl _)) (InA.toGe hi2 (apC (Ge.le hge2 (Nat.le_refl _)) (fun p hp => Ge.le (hge1 p hp) (Nat.le_refl _))) (size_le gr2)))))
              refine WL.y rfl (Yld.pure tab_ok rfl) ?_
              refine WL.nil (WX.then_normal ?_)
              refine WC.seq ?_
              refine WC.region ?_
              refine WL.y rfl (Yld.pure tab_ok rfl) ?_
              refine WL.call rfl rfl (W_key_Source H) ?_
              rintro _ w10 ⟨hg5, t36, rfl, H⟩
              have gr8 := gr_trans gr7 hg5
              have k9 := hM4.g0 hg5
              have k10 := hB4.g0 hg5
              have k11 := hM3.g0 hg5
              have k12 := hB3.g0 hg5
              have k13 := ha.grown hg5
              refine WL.call rfl rfl (W_key_Source H) ?_
              rintro _ w11 ⟨hg6, t37, rfl, H⟩
              have gr9 := gr_trans gr8 hg6
              have k14 := k9.g0 hg6
              have k15 := k10.g0 hg6
              have k16 := k11.g0 hg6
              have k17 := k12.g0 hg6
              have k18 := k13.grown hg6
              refine WL.call rfl rfl (W_pcache_Cache_Put (GB.grown hG gr9) (size_le gr9) (apC (Ge.le hge4 (size_le gr2)) (apC (Ge.le hge3 (size_le gr2)) (apC (Ge.le hge2 (Nat.le_refl _)) (InA.toGe hi3 (apC (Ge.le hge4 (size_le gr2)) (apC (Ge.le hge3 (size_le gr2)) (apC (Ge.le hge2 (Nat.le_refl _)) (InA.toGe hi2 (apC (Ge.le hge2 (Nat.le_refl _)) (fun p hp => Ge.le (hge1 p hp) (Nat.le_refl _))) (size_le gr2))))) (size_le gr6))))) hS9 hS11 hS15 hS100 k14 k15 k16 k17 dj9 dj10 dj11 dj12 dj13 dj14 H) ?_
              rintro v_b w12 ⟨hgl4, _, b, t220_3, t220_4, hs_t110_4, t110_13, t110_14, t110_15, t110_16, rfl, hb, hB5, hM5, hB6, hM6, hi4, dj15, dj16, dj17, dj18, dj19, dj20, H⟩
              have gr10 := gr_modL gr9 hgl4 (apC (Ge.le hge4 (size_le gr2)) (apC (Ge.le hge3 (size_le gr2)) (apC (Ge.le hge2 (Nat.le_refl _)) (InA.toGe hi3 (apC (Ge.le hge4 (size_le gr2)) (apC (Ge.le hge3 (size_le gr2)) (apC (Ge.le hge2 (Nat.le_refl _)) (InA.toGe hi2 (apC (Ge.le hge2 (Nat.le_refl _)) (fun p hp => Ge.le (hge1 p hp) (Nat.le_refl _))) (size_le gr2))))) (size_le gr6)))))
              have k19 := ErrR.goB k18 (GB.grown hG gr9) hgl4 (apC (Ge.le hge4 (size_le gr2)) (apC (Ge.le hge3 (size_le gr2)) (apC (Ge.le hge2 (Nat.le_refl _)) (InA.toGe hi3 (apC (Ge.le hge4 (size_le gr2)) (apC (Ge.le hge3 (size_le gr2)) (apC (Ge.le hge2 (Nat.le_refl _)) (InA.toGe hi2 (apC (Ge.le hge2 (Nat.le_refl _)) (fun p hp => Ge.le (hge1 p hp) (Nat.le_refl _))) (size_le gr2))))) (size_le gr6))))) (apC (NoAt.bl k17 rfl) (apC (NoAt.map k16) (apC (NoAt.bl k15 rfl) k14.noats)))
              refine WL.y rfl (Yld.pure tab_ok rfl) ?_
              refine WL.nil (WX.then_normal ?_)
              refine WC.seq ?_
              refine WC.region ?_
              refine WL.y rfl (Yld.pure tab_ok rfl) ?_
              refine WL.call rfl rfl (W_pdisk_Disk_Read (GB.grown hG gr10) (size_le gr10) (apC (Ge.le hge2 (Nat.le_refl _)) (InA.toGe hi4 (apC (Ge.le hge4 (size_le gr2)) (apC (Ge.le hge3 (size_le gr2)) (apC (Ge.le hge2 (Nat.le_refl _)) (InA.toGe hi3 (apC (Ge.le hge4 (size_le gr2)) (apC (Ge.le hge3 (size_le gr2)) (apC (Ge.le hge2 (Nat.le_refl _)) (InA.toGe hi2 (apC (Ge.le hge2 (Nat.le_refl _)) (fun p hp => Ge.le (hge1 p hp) (Nat.le_refl _))) (size_le gr2))))) (size_le gr6))))) (size_le gr9))) hS15 hM6 hB6 dj20 H) ?_
              rintro _ w13 ⟨hgl5, t410, t411, v_t412, t412, hs_t110_5, t110_17, t110_18, t110_19, t110_20, rfl, ht412, hB7, hM7, hi5, dj21, H⟩
              have gr11 := gr_modL gr10 hgl5 (apC (Ge.le hge2 (Nat.le_refl _)) (InA.toGe hi4 (apC (Ge.le hge4 (size_le gr2)) (apC (Ge.le hge3 (size_le gr2)) (apC (Ge.le hge2 (Nat.le_refl _)) (InA.toGe hi3 (apC (Ge.le hge4 (size_le gr2)) (apC (Ge.le hge3 (size_le gr2)) (apC (Ge.le hge2 (Nat.le_refl _)) (InA.toGe hi2 (apC (Ge.le hge2 (Nat.le_refl _)) (fun p hp => Ge.le (hge1 p hp) (Nat.le_refl _))) (size_le gr2))))) (size_le gr6))))) (size_le gr9)))
              have k20 := hM5.goL hgl5 (apC dj18 dj19)
              have k21 := hB5.goL hgl5 (apC dj16 dj17)
              have k22 := ErrR.goB k19 (GB.grown hG gr10) hgl5 (apC (Ge.le hge2 (Nat.le_refl _)) (InA.toGe hi4 (apC (Ge.le hge4 (size_le gr2)) (apC (Ge.le hge3 (size_le gr2)) (apC (Ge.le hge2 (Nat.le_refl _)) (InA.toGe hi3 (apC (Ge.le hge4 (size_le gr2)) (apC (Ge.le hge3 (size_le gr2)) (apC (Ge.le hge2 (Nat.le_refl _)) (InA.toGe hi2 (apC (Ge.le hge2 (Nat.le_refl _)) (fun p hp => Ge.le (hge1 p hp) (Nat.le_refl _))) (size_le gr2))))) (size_le gr6))))) (size_le gr9))) (apC (NoAt.bl hB6 rfl) hM6.noats)
              have k23 := ErrR.goB hb (GB.grown hG gr10) hgl5 (apC (Ge.le hge2 (Nat.le_refl _)) (InA.toGe hi4 (apC (Ge.le hge4 (size_le gr2)) (apC (Ge.le hge3 (size_le gr2)) (apC (Ge.le hge2 (Nat.le_refl _)) (InA.toGe hi3 (apC (Ge.le hge4 (size_le gr2)) (apC (Ge.le hge3 (size_le gr2)) (apC (Ge.le hge2 (Nat.le_refl _)) (InA.toGe hi2 (apC (Ge.le hge2 (Nat.le_refl _)) (fun p hp => Ge.le (hge1 p hp) (Nat.le_refl _))) (size_le gr2))))) (size_le gr6))))) (size_le gr9))) (apC (NoAt.bl hB6 rfl) hM6.noats)
              refine WL.y rfl (Yld.pure tab_ok rfl) ?_
              refine WL.y rfl (Yld.pure tab_ok rfl) ?_
              refine WL.y rfl (Yld.pure tab_ok rfl) ?_
              refine WL.y rfl (Yld.pure tab_ok rfl) ?_
              refine WL.y rfl (Yld.pure tab_ok rfl) ?_
              refine WL.y rfl (Yld.pure tab_ok rfl) ?_
              refine WL.y rfl (Yld.pure tab_ok rfl) ?_
              refine WL.nil (WX.then_normal ?_)
              refine WC.seq ?_
              refine WC.region ?_
              refine WL.y rfl (Yld.pure tab_ok rfl) ?_
              refine WL.y rfl (Yld.erreql Tryd.underlying29 k22 rfl) ?_
              refine WL.y rfl (Yld.pure tab_ok rfl) ?_
              refine WL.midF 3 (fun L' w' => ∃ q5 : Bool, L' = [(50, .bool q5), (3, .pointer (some ⟨g_t220, 0, none⟩)), (7, vs t410), (8, .bool t411), (9, v_t412)] ∧ ((decide (a = Er.ok)) && (decide (b = Er.ok))) = q5 ∧ w13 = w') ?_ (fun hQ => ?_)
              · rintro _ _ ⟨q5, rfl, rfl, rfl⟩
                refine WL.y rfl (Yld.pure tab_ok rfl) ?_
                refine WL.midF 2 (fun L' w' => ∃ q6 : Bool, L' = [(53, .bool q6), (3, .pointer (some ⟨g_t220, 0, none⟩)), (7, vs t410), (9, v_t412)] ∧ (((decide (a = Er.ok)) && (decide (b = Er.ok))) && t411) = q6 ∧ w13 = w') ?_ (fun hQ => ?_)
                · rintro _ _ ⟨q6, rfl, rfl, rfl⟩
                  refine WL.y rfl (Yld.pure tab_ok rfl) ?_
                  refine WL.midF 3 (fun L' w' => ∃ q7 : Bool, L' = [(57, .bool q7), (3, .pointer (some ⟨g_t220, 0, none⟩)), (7, vs t410)] ∧ ((((decide (a = Er.ok)) && (decide (b = Er.ok))) && t411) && (decide (t412 = Er.ok))) = q7 ∧ w13 = w') ?_ (fun hQ => ?_)
                  · rintro _ _ ⟨q7, rfl, rfl, rfl⟩
                    refine WL.y rfl (Yld.pure tab_ok rfl) ?_
                    refine WL.midF 4 (fun L' w' => ∃ q8 : Bool, L' = [(62, .bool q8), (3, .pointer (some ⟨g_t220, 0, none⟩))] ∧ (((((decide (a = Er.ok)) && (decide (b = Er.ok))) && t411) && (decide (t412 = Er.ok))) && (decide ((t410.length : Int) = (195 : Int)))) = q8 ∧ w13 = w') ?_ (fun hQ => ?_)
                    · rintro _ _ ⟨q8, rfl, rfl, rfl⟩
                      refine WL.y rfl (Yld.pure tab_ok rfl) ?_
                      obtain ⟨J1, H, hJ1⟩ := H
                      refine WL.midF 4 (fun L' w' => ∃ q9 : Bool, L' = [(67, .bool q9)] ∧ J1 q9 ∧ w13 = w') ?_ (fun hQ => ?_)
                      · clear H
                        rintro _ _ ⟨q9, rfl, H, rfl⟩
                        replace H := hJ1 q9 H
                        refine WL.y rfl (Yld.pure tab_ok rfl) ?_
                        refine WL.nil (WX.then_normal ?_)
                        refine WC.ret ?_
                        exact WX.ret1 rfl rfl ⟨gr11, q9, rfl, H⟩
                      · clear hJ1
                        rcases Bool.eq_false_or_eq_true (((((decide (a = Er.ok)) && (decide (b = Er.ok))) && t411) && (decide (t412 = Er.ok))) && (decide ((t410.length : Int) = (195 : Int)))) with b3 | b3
                        · replace H := H.1 b3
                          refine WL.gyes rfl rfl (okb b3) rfl (Yld.pure tab_ok rfl) ?_
                          refine WL.callw (wants_some rfl rfl (okb b3)) rfl rfl (W_pcache_Cache_Len hM7 hB7 k20 k21 H) ?_
                          rintro _ _ ⟨rfl, t65, rfl, H⟩
                          refine WL.gyes rfl rfl (okb b3) rfl (Yld.pure tab_ok rfl) ?_
                          refine WL.y rfl (Yld.pickT (okb b3) rfl) ?_
                          exact WL.weaken (by repeat (first | exact Sub.nil | refine Sub.cons rfl ?_)) (hQ _ _ ⟨decide (t65 = (1 : Int)), rfl, H, rfl⟩)
                        · replace H := H.2 b3
                          refine WL.gno rfl rfl (okb b3) rfl ?_
                          refine WL.gno rfl rfl (okb b3) rfl ?_
                          refine WL.gno rfl rfl (okb b3) rfl ?_
                          refine WL.y rfl (Yld.pickF (okb b3) rfl) ?_
                          exact WL.weaken (by repeat (first | exact Sub.nil | refine Sub.cons rfl ?_)) (hQ _ _ ⟨false, rfl, H, rfl⟩)
                    · clear H
                      rcases Bool.eq_false_or_eq_true ((((decide (a = Er.ok)) && (decide (b = Er.ok))) && t411) && (decide (t412 = Er.ok))) with b4 | b4
                      · refine WL.gyes rfl rfl (okb b4) rfl (Yld.pure tab_ok rfl) ?_
                        refine WL.gyes rfl rfl (okb b4) rfl (Yld.pure tab_ok rfl) ?_
                        refine WL.gyes rfl rfl (okb b4) rfl (Yld.pure tab_ok rfl) ?_
                        refine WL.y rfl (Yld.pickT (okb b4) rfl) ?_
                        exact WL.weaken (by repeat (first | exact Sub.nil | refine Sub.cons rfl ?_)) (hQ _ _ ⟨decide ((t410.length : Int) = (195 : Int)), rfl, by rw [b4] <;> rfl, rfl⟩)
                      · refine WL.gno rfl rfl (okb b4) rfl ?_
                        refine WL.gno rfl rfl (okb b4) rfl ?_
                        refine WL.gno rfl rfl (okb b4) rfl ?_
                        refine WL.y rfl (Yld.pickF (okb b4) rfl) ?_
                        exact WL.weaken (by repeat (first | exact Sub.nil | refine Sub.cons rfl ?_)) (hQ _ _ ⟨false, rfl, by rw [b4] <;> rfl, rfl⟩)
                  · clear H
                    rcases Bool.eq_false_or_eq_true (((decide (a = Er.ok)) && (decide (b = Er.ok))) && t411) with b5 | b5
                    · refine WL.gyes rfl rfl (okb b5) rfl (Yld.pure tab_ok rfl) ?_
                      refine WL.gyes rfl rfl (okb b5) rfl (Yld.erreql Tryd.underlying29 ht412 rfl) ?_
                      refine WL.y rfl (Yld.pickT (okb b5) rfl) ?_
                      exact WL.weaken (by repeat (first | exact Sub.nil | refine Sub.cons rfl ?_)) (hQ _ _ ⟨decide (t412 = Er.ok), rfl, by rw [b5] <;> rfl, rfl⟩)
                    · refine WL.gno rfl rfl (okb b5) rfl ?_
                      refine WL.gno rfl rfl (okb b5) rfl ?_
                      refine WL.y rfl (Yld.pickF (okb b5) rfl) ?_
                      exact WL.weaken (by repeat (first | exact Sub.nil | refine Sub.cons rfl ?_)) (hQ _ _ ⟨false, rfl, by rw [b5] <;> rfl, rfl⟩)
                · clear H
                  rcases Bool.eq_false_or_eq_true ((decide (a = Er.ok)) && (decide (b = Er.ok))) with b6 | b6
                  · refine WL.gyes rfl rfl (okb b6) rfl (Yld.pure tab_ok rfl) ?_
                    refine WL.y rfl (Yld.pickT (okb b6) rfl) ?_
                    exact WL.weaken (by repeat (first | exact Sub.nil | refine Sub.cons rfl ?_)) (hQ _ _ ⟨t411, rfl, by rw [b6] <;> rfl, rfl⟩)
                  · refine WL.gno rfl rfl (okb b6) rfl ?_
                    refine WL.y rfl (Yld.pickF (okb b6) rfl) ?_
                    exact WL.weaken (by repeat (first | exact Sub.nil | refine Sub.cons rfl ?_)) (hQ _ _ ⟨false, rfl, by rw [b6] <;> rfl, rfl⟩)
              · clear H
                rcases Bool.eq_false_or_eq_true (decide (a = Er.ok)) with b7 | b7
                · refine WL.gyes rfl rfl (okb b7) rfl (Yld.pure tab_ok rfl) ?_
                  refine WL.gyes rfl rfl (okb b7) rfl (Yld.erreql Tryd.underlying29 k23 rfl) ?_
                  refine WL.y rfl (Yld.pickT (okb b7) rfl) ?_
                  exact WL.weaken (by repeat (first | exact Sub.nil | refine Sub.cons rfl ?_)) (hQ _ _ ⟨decide (b = Er.ok), rfl, by rw [b7] <;> rfl, rfl⟩)
                · refine WL.gno rfl rfl (okb b7) rfl ?_
                  refine WL.gno rfl rfl (okb b7) rfl ?_
                  refine WL.y rfl (Yld.pickF (okb b7) rfl) ?_
                  exact WL.weaken (by repeat (first | exact Sub.nil | refine Sub.cons rfl ?_)) (hQ _ _ ⟨false, rfl, by rw [b7] <;> rfl, rfl⟩)
          · clear H
            refine WL.gyes rfl rfl (rfl) rfl (Yld.pure tab_ok rfl) ?_
            refine WL.gyes rfl rfl (rfl) rfl (Yld.errneq Tryd.underlying29 ht2212 rfl) ?_
            refine WL.y rfl (Yld.pickF (rfl) rfl) ?_
            exact WL.weaken (by repeat (first | exact Sub.nil | refine Sub.cons rfl ?_)) (hQ _ _ ⟨!decide (t2212 = Er.ok), rfl, rfl, rfl⟩)
    · clear H
      refine WL.gyes rfl rfl (rfl) rfl (Yld.pure tab_ok rfl) ?_
      refine WL.gyes rfl rfl (rfl) rfl (Yld.errneq Tryd.underlying29 ht1112 rfl) ?_
      refine WL.y rfl (Yld.pickF (rfl) rfl) ?_
      exact WL.weaken (by repeat (first | exact Sub.nil | refine Sub.cons rfl ?_)) (hQ _ _ ⟨!decide (t1112 = Er.ok), rfl, rfl, rfl⟩)

set_option maxHeartbeats 8000000 in
theorem W_smithylaw25_same {w : World} {a : List (List UInt8 × List UInt8)} {A_a : Option Addr} {c_a : Nat} {b : List (List UInt8 × List UInt8)} {A_b : Option Addr} {c_b : Nat} {n_a : Nat} {n_b : Nat} {K : Bool → Prop} (ha : RdK 64 enc78 w A_a c_a a) (hn_a : n_a = a.length) (hb : RdK 64 enc81 w A_b c_b b) (hn_b : n_b = b.length) (H : M_smithylaw25_same a b K) : Fn Tryd.prog 38 ⟨[.slice A_a n_a c_a, .slice A_b n_b c_b]⟩ w (fun v w' => w.grownBy w' none ∧ ∃ (r : Bool), v = .bool r ∧ K r) := by
  subst hn_a
  subst hn_b
  unfold M_smithylaw25_same at H
  refine Fn.enter (by kernel_rfl) Tryd.func38 rfl Tryd.ntmps38 rfl ?_
  replace H := H (Nat.le_trans ha.cap ha.max)
  replace H := H (Nat.le_trans hb.cap hb.max)
  refine WC.seq ?_
  refine WC.region ?_
  refine WL.y rfl (Yld.pure tab_ok rfl) ?_
  refine WL.nil (WX.then_normal ?_)
  refine WC.seq ?_
  refine WC.seq ?_
  refine WC.region ?_
  refine WL.y rfl (Yld.pure tab_ok rfl) ?_
  refine WL.y rfl (Yld.pure tab_ok rfl) ?_
  refine WL.y rfl (Yld.pure tab_ok rfl) ?_
  refine WL.y rfl (Yld.pure tab_ok rfl) ?_
  refine WL.y rfl (Yld.pure tab_ok rfl) ?_
  refine WL.nil (WX.then_normal ?_)
  refine WC.cond rfl (fun b1 => ?_) (fun b1 => ?_)
  · replace H := H.1 (nd_true b1)
    refine WC.seq ?_
    refine WC.region ?_
    refine WL.y rfl (Yld.pure tab_ok rfl) ?_
    refine WL.nil (WX.then_normal ?_)
    refine WC.ret (WX.then_ret ?_)
    exact WX.ret1 rfl rfl ⟨(gr_refl _ _), false, rfl, H⟩
  · replace H := H.2 (nd_false b1)
    refine WC.skip (WX.then_normal ?_)
    refine WC.seq ?_
    refine WC.seq ?_
    refine WC.region ?_
    refine WL.y rfl (Yld.pure tab_ok rfl) ?_
    refine WL.nil (WX.then_normal ?_)
    refine WC.block ?_
    obtain ⟨I1, mu1, h0_1, HR1⟩ := H
    refine WC.loopF (fun n' L' w' => ∃ (i : Int), n' = mu1 i ∧ L' = [(0, .slice A_a a.length c_a), (1, .slice A_b b.length c_b), (5, .int .i64 i)] ∧ I1 i ∧ w.grownBy w' none) _ _ ⟨(0 : Int), rfl, rfl, h0_1, (gr_refl _ _)⟩ (by repeat (first | exact Sub.nil | refine Sub.cons rfl ?_)) ?_
    clear h0_1
    rintro _ _ w1 ⟨i, rfl, rfl, hI1, gr1⟩
    have H := HR1 i hI1
    refine WC.seq ?_
    refine WC.seq ?_
    refine WC.region ?_
    refine WL.y rfl (Yld.pure tab_ok rfl) ?_
    refine WL.y rfl (Yld.pure tab_ok rfl) ?_
    refine WL.y rfl (Yld.pure tab_ok rfl) ?_
    refine WL.y rfl (Yld.pure tab_ok rfl) ?_
    refine WL.nil (WX.then_normal ?_)
    refine WC.cond rfl (fun b2 => ?_) (fun b2 => ?_)
    · replace H := H.1 (of_decide_eq_true b2)
      refine WC.skip (WX.then_normal ?_)
      refine WC.seq ?_
      refine WC.block ?_
      refine WC.seq ?_
      refine WC.chainF (fun k => !(Nat.beq k 10 || Nat.beq k 23)) (LD [4, 9, 17, 22] (fun w' => RdK 64 enc78 w' A_a c_a a ∧ RdK 64 enc81 w' A_b c_b b)) mixed (by kernel_rfl) (fun k w' h _ => ⟨(RdK.eqv h (ha.grown gr1)), (RdK.eqv h (hb.grown gr1))⟩) ?_
      refine WJ.y rfl rfl (fun w' hw' => Yld.pure tab_ok rfl) ?_
      refine WJ.y rfl rfl (fun w' hw' => Yld.pure tab_ok rfl) ?_
      obtain ⟨h1, H⟩ := H
      refine WJ.y rfl rfl (fun w' hw' => Yld.iaddrK tab_ok (ha.grown gr1) rfl rfl rfl rfl h1.1 h1.2) ?_
      refine WJ.y rfl rfl (fun w' hw' => Yld.faddrK tab_ok (ha.grown gr1) (iltN h1 rfl) rfl rfl rfl) ?_
      refine WJ.y rfl rfl (fun w' hw' => Yld.iloadP (vs := (a32 ((a.getD i.toNat ([], [])).1))) ([], []) tab_ok (hw' rfl).1 rfl rfl (iltN h1 rfl) rfl rfl) ?_
      refine WJ.y rfl rfl (fun w' hw' => Yld.pure tab_ok rfl) ?_
      refine WJ.y rfl rfl (fun w' hw' => Yld.pure tab_ok rfl) ?_
      obtain ⟨h2, H⟩ := H
      refine WJ.y rfl rfl (fun w' hw' => Yld.iaddrK tab_ok (hb.grown gr1) rfl rfl rfl rfl h2.1 h2.2) ?_
      refine WJ.y rfl rfl (fun w' hw' => Yld.faddrK tab_ok (hb.grown gr1) (iltN h2 rfl) rfl rfl rfl) ?_
      refine WJ.y rfl rfl (fun w' hw' => Yld.iloadP (vs := (a32 ((b.getD i.toNat ([], [])).1))) ([], []) tab_ok (hw' rfl).2 rfl rfl (iltN h2 rfl) rfl rfl) ?_
      refine WJ.call rfl (wants_none) rfl rfl (W_smithyref17_SameSum H) (fun v w' h w2 e => DD.keep (⟨(RdK.grown (ha.grown gr1) (gr_eqv h.1 e)), (RdK.grown (hb.grown gr1) (gr_eqv h.1 e))⟩)) ?_
      rintro _ w2 ⟨hg1, t27, rfl, H⟩
      have gr2 := gr_trans gr1 hg1
      refine WJ.y rfl rfl (fun w' hw' => Yld.pure tab_ok rfl) ?_
      refine WJ.y rfl rfl (fun w' hw' => Yld.pure tab_ok rfl) ?_
      obtain ⟨J1, H, hJ1⟩ := H
      refine WJ.midF 13 (fun L' w' => ∃ q1 : Bool, L' = [(42, .bool q1), (0, .slice A_a a.length c_a), (1, .slice A_b b.length c_b), (5, .int .i64 i)] ∧ J1 q1 ∧ w.grownBy w' none) ?_ (fun hQ => ?_)
      · clear H
        rintro _ w3 ⟨q1, rfl, H, gr3⟩
        replace H := hJ1 q1 H
        refine WJ.nil (WX.then_normal ?_)
        refine WC.cond rfl (fun b3 => ?_) (fun b3 => ?_)
        · replace H := H.1 (b3)
          refine WC.seq ?_
          refine WC.region ?_
          refine WL.y rfl (Yld.pure tab_ok rfl) ?_
          refine WL.nil (WX.then_normal ?_)
          refine WC.ret (WX.block_ret (WX.then_ret (WX.then_ret (WX.block_ret (WX.then_ret ?_)))))
          exact WX.ret1 rfl rfl ⟨gr3, false, rfl, H⟩
        · replace H := H.2 (b3)
          refine WC.skip (WX.block_normal (WX.then_normal ?_))
          refine WC.region ?_
          refine WL.y rfl (Yld.pure tab_ok rfl) ?_
          obtain ⟨h3, H⟩ := H
          refine WL.y rfl (Yld.add rfl rfl h3) ?_
          refine WL.y rfl (Yld.pure tab_ok rfl) ?_
          refine WL.nil ?_
          exact WX.roundF _ ⟨i + (1 : Int), rfl, rfl, H.1, gr3⟩ (by repeat (first | exact Sub.nil | refine Sub.cons rfl ?_)) H.2
      · clear hJ1
        rcases Bool.eq_false_or_eq_true (!t27) with b4 | b4
        · replace H := H.1 b4
          refine WJ.no rfl rfl (okb b4) rfl ?_
          refine WJ.no rfl rfl (okb b4) rfl ?_
          refine WJ.no rfl rfl (okb b4) rfl ?_
          refine WJ.no rfl rfl (okb b4) rfl ?_
          refine WJ.no rfl rfl (okb b4) rfl ?_
          refine WJ.no rfl rfl (okb b4) rfl ?_
          refine WJ.no rfl rfl (okb b4) rfl ?_
          refine WJ.no rfl rfl (okb b4) rfl ?_
          refine WJ.no rfl rfl (okb b4) rfl ?_
          refine WJ.no rfl rfl (okb b4) rfl ?_
          refine WJ.no rfl rfl (okb b4) rfl ?_
          refine WJ.no rfl rfl (okb b4) rfl ?_
          refine WJ.y rfl rfl (fun w' hw' => Yld.pickT (okb b4) rfl) ?_
          exact WJ.weaken (by repeat (first | exact Sub.nil | refine Sub.cons rfl ?_)) (hQ _ _ ⟨true, rfl, H, gr2⟩)
        · replace H := H.2 b4
          refine WJ.yw rfl (wants_some rfl rfl (okb b4)) rfl (fun w' hw' => Yld.pure tab_ok rfl) ?_
          refine WJ.yw rfl (wants_some rfl rfl (okb b4)) rfl (fun w' hw' => Yld.pure tab_ok rfl) ?_
          obtain ⟨h4, H⟩ := H
          refine WJ.yw rfl (wants_some rfl rfl (okb b4)) rfl (fun w' hw' => Yld.iaddrK tab_ok (ha.grown gr2) rfl rfl rfl rfl h4.1 h4.2) ?_
          refine WJ.yw rfl (wants_some rfl rfl (okb b4)) rfl (fun w' hw' => Yld.faddrK tab_ok (ha.grown gr2) (iltN h4 rfl) rfl rfl rfl) ?_
          refine WJ.yw rfl (wants_some rfl rfl (okb b4)) rfl (fun w' hw' => Yld.iloadP (vs := (a32 ((a.getD i.toNat ([], [])).2))) ([], []) tab_ok (hw' rfl).1 rfl rfl (iltN h4 rfl) rfl rfl) ?_
          refine WJ.yw rfl (wants_some rfl rfl (okb b4)) rfl (fun w' hw' => Yld.pure tab_ok rfl) ?_
          refine WJ.yw rfl (wants_some rfl rfl (okb b4)) rfl (fun w' hw' => Yld.pure tab_ok rfl) ?_
          obtain ⟨h5, H⟩ := H
          refine WJ.yw rfl (wants_some rfl rfl (okb b4)) rfl (fun w' hw' => Yld.iaddrK tab_ok (hb.grown gr2) rfl rfl rfl rfl h5.1 h5.2) ?_
          refine WJ.yw rfl (wants_some rfl rfl (okb b4)) rfl (fun w' hw' => Yld.faddrK tab_ok (hb.grown gr2) (iltN h5 rfl) rfl rfl rfl) ?_
          refine WJ.yw rfl (wants_some rfl rfl (okb b4)) rfl (fun w' hw' => Yld.iloadP (vs := (a32 ((b.getD i.toNat ([], [])).2))) ([], []) tab_ok (hw' rfl).2 rfl rfl (iltN h5 rfl) rfl rfl) ?_
          refine WJ.call rfl (wants_some rfl rfl (okb b4)) rfl rfl (W_smithyref17_SameSum H) (fun v w' h w2 e => DD.keep (⟨(RdK.grown (ha.grown gr2) (gr_eqv h.1 e)), (RdK.grown (hb.grown gr2) (gr_eqv h.1 e))⟩)) ?_
          rintro _ w4 ⟨hg2, t40, rfl, H⟩
          have gr4 := gr_trans gr2 hg2
          refine WJ.yw rfl (wants_some rfl rfl (okb b4)) rfl (fun w' hw' => Yld.pure tab_ok rfl) ?_
          refine WJ.y rfl rfl (fun w' hw' => Yld.pickF (okb b4) rfl) ?_
          exact WJ.weaken (by repeat (first | exact Sub.nil | refine Sub.cons rfl ?_)) (hQ _ _ ⟨!t40, rfl, H, gr4⟩)
    · replace H := H.2 (of_decide_eq_false b2)
      refine WC.exit (WX.then_exit (WX.then_exit (WX.block_same (WX.then_normal ?_))))
      refine WC.seq ?_
      refine WC.region ?_
      refine WL.y rfl (Yld.pure tab_ok rfl) ?_
      refine WL.nil (WX.then_normal ?_)
      refine WC.ret ?_
      exact WX.ret1 rfl rfl ⟨gr1, true, rfl, H⟩

set_option maxHeartbeats 8000000 in
theorem W_smithylaw25_CacheReads {S : List Nat} {w : World} {text : List UInt8} {l : List Int} {A_l : Option Addr} {c_l : Nat} {at_ : Int} {n_l : Nat} {K : Bool → Prop} (hG : GOK S w) (hS9 : 9 ∈ S) (hS11 : 11 ∈ S) (hS12 : 12 ∈ S) (hS15 : 15 ∈ S) (hS100 : 100 ∈ S) (hl : Rd vi w A_l c_l l) (hn_l : n_l = l.length) (H : M_smithylaw25_CacheReads text l at_ K) : Fn Tryd.prog 7 ⟨[vs text, .slice A_l n_l c_l, .int .i64 at_]⟩ w (fun v w' => w.grownBy w' none ∧ ∃ (r : Bool), v = .bool r ∧ K r) := by
  subst hn_l
  unfold M_smithylaw25_CacheReads at H
  refine Fn.enter (by kernel_rfl) Tryd.func7 rfl Tryd.ntmps7 rfl ?_
  replace H := H (Nat.le_trans hl.cap hl.max)
  refine WC.seq ?_
  refine WC.region ?_
  refine WL.y rfl (Yld.pure tab_ok rfl) ?_
  refine WL.nil (WX.then_normal ?_)
  refine WC.seq ?_
  refine WC.region ?_
  refine WL.call rfl rfl (W_smithylaw25_first hG hS9 hS11 hS12 hS15 hS100 H) ?_
  rintro _ w1 ⟨hg1, ok, rfl, H⟩
  have gr1 := hg1
  refine WL.y rfl (Yld.pure tab_ok rfl) ?_
  refine WL.nil (WX.then_normal ?_)
  refine WC.seq ?_
  refine WC.seq ?_
  refine WC.region ?_
  refine WL.y rfl (Yld.pure tab_ok rfl) ?_
  refine WL.y rfl (Yld.pure tab_ok rfl) ?_
  refine WL.nil (WX.then_normal ?_)
  refine WC.cond rfl (fun b1 => ?_) (fun b1 => ?_)
  · replace H := H.1 (b1)
    refine WC.seq ?_
    refine WC.region ?_
    refine WL.y rfl (Yld.pure tab_ok rfl) ?_
    refine WL.nil (WX.then_normal ?_)
    refine WC.ret (WX.then_ret ?_)
    exact WX.ret1 rfl rfl ⟨gr1, false, rfl, H⟩
  · replace H := H.2 (b1)
    refine WC.skip (WX.then_normal ?_)
    refine WC.seq ?_
    refine WC.seq ?_
    refine WC.region ?_
    refine WL.y rfl (Yld.pure tab_ok rfl) ?_
    refine WL.y rfl (Yld.pure tab_ok rfl) ?_
    refine WL.y rfl (Yld.pure tab_ok rfl) ?_
    refine WL.y rfl (Yld.pure tab_ok rfl) ?_
    refine WL.midF 4 (fun L' w' => ∃ q1 : Bool, L' = [(30, .bool q1), (0, vs text), (1, .slice A_l l.length c_l), (2, .int .i64 at_), (7, .bool ok)] ∧ ((decide ((2000 : Int) < (text.length : Int))) || (decide ((10 : Int) < (l.length : Int)))) = q1 ∧ w1 = w') ?_ (fun hQ => ?_)
    · rintro _ _ ⟨q1, rfl, rfl, rfl⟩
      refine WL.y rfl (Yld.pure tab_ok rfl) ?_
      refine WL.midF 3 (fun L' w' => ∃ q2 : Bool, L' = [(34, .bool q2), (0, vs text), (1, .slice A_l l.length c_l), (2, .int .i64 at_), (7, .bool ok)] ∧ (((decide ((2000 : Int) < (text.length : Int))) || (decide ((10 : Int) < (l.length : Int)))) || (!ok)) = q2 ∧ w1 = w') ?_ (fun hQ => ?_)
      · rintro _ _ ⟨q2, rfl, rfl, rfl⟩
        refine WL.nil (WX.then_normal ?_)
        refine WC.cond rfl (fun b2 => ?_) (fun b2 => ?_)
        · replace H := H.1 (b2)
          refine WC.seq ?_
          refine WC.region ?_
          refine WL.y rfl (Yld.pure tab_ok rfl) ?_
          refine WL.y rfl (Yld.pure tab_ok rfl) ?_
          refine WL.nil (WX.then_normal ?_)
          refine WC.ret (WX.then_ret ?_)
          exact WX.ret1 rfl rfl ⟨gr1, ok, rfl, H⟩
        · replace H := H.2 (b2)
          refine WC.skip (WX.then_normal ?_)
          refine WC.seq ?_
          refine WC.region ?_
          refine WL.y rfl (Yld.pure tab_ok rfl) ?_
          refine WL.call rfl rfl (W_cache_Read (hG.grown gr1) hS12 H) ?_
          rintro _ w2 ⟨hg2, t380, A_t380, c_t380, t381, rfl, ht380, H⟩
          have hb1 := ht380.ge'
          have k1 := ht380.base (fun g hg => Nat.le_trans (size_le gr1) (hb1 g hg))
          have gr2 := gr_trans gr1 hg2
          refine WL.y rfl (Yld.pure tab_ok rfl) ?_
          refine WL.y rfl (Yld.pure tab_ok rfl) ?_
          refine WL.y rfl (Yld.pure tab_ok rfl) ?_
          refine WL.y rfl (Yld.pure tab_ok rfl) ?_
          refine WL.y rfl (Yld.pure tab_ok rfl) ?_
          refine WL.nil (WX.then_normal ?_)
          refine WC.seq ?_
          refine WC.region ?_
          refine WL.y rfl (Yld.pure tab_ok rfl) ?_
          refine WL.call rfl rfl (W_smithyref17_ReadJournal H) ?_
          rintro _ w3 ⟨hg3, t430, A_t430, c_t430, t431, rfl, ht430, H⟩
          have hb2 := ht430.ge'
          have k2 := ht430.base (fun g hg => Nat.le_trans (size_le gr2) (hb2 g hg))
          have gr3 := gr_trans gr2 hg3
          have k3 := k1.grown hg3
          refine WL.y rfl (Yld.pure tab_ok rfl) ?_
          refine WL.y rfl (Yld.pure tab_ok rfl) ?_
          refine WL.y rfl (Yld.pure tab_ok rfl) ?_
          refine WL.y rfl (Yld.pure tab_ok rfl) ?_
          refine WL.y rfl (Yld.pure tab_ok rfl) ?_
          refine WL.nil (WX.then_normal ?_)
          refine WC.seq ?_
          refine WC.seq ?_
          refine WC.region ?_
          refine WL.y rfl (Yld.pure tab_ok rfl) ?_
          refine WL.y rfl (Yld.pure tab_ok rfl) ?_
          refine WL.y rfl (Yld.pure tab_ok rfl) ?_
          refine WL.y rfl (Yld.pure tab_ok rfl) ?_
          obtain ⟨J1, H, hJ1⟩ := H
          refine WL.midF 5 (fun L' w' => ∃ q3 : Bool, L' = [(54, .bool q3), (1, .slice A_l l.length c_l), (2, .int .i64 at_)] ∧ J1 q3 ∧ w.grownBy w' none) ?_ (fun hQ => ?_)
          · clear H
            rintro _ w4 ⟨q3, rfl, H, gr4⟩
            replace H := hJ1 q3 H
            refine WL.nil (WX.then_normal ?_)
            refine WC.cond rfl (fun b3 => ?_) (fun b3 => ?_)
            · replace H := H.1 (b3)
              refine WC.seq ?_
              refine WC.region ?_
              refine WL.y rfl (Yld.pure tab_ok rfl) ?_
              refine WL.nil (WX.then_normal ?_)
              refine WC.ret (WX.then_ret ?_)
              exact WX.ret1 rfl rfl ⟨gr4, false, rfl, H⟩
            · replace H := H.2 (b3)
              refine WC.skip (WX.then_normal ?_)
              refine WC.seq ?_
              refine WC.region ?_
              refine WL.y rfl (Yld.pure tab_ok rfl) ?_
              refine WL.nil (WX.then_normal ?_)
              refine WC.seq ?_
              refine WC.region ?_
              refine WL.y rfl (Yld.pure tab_ok rfl) ?_
              refine WL.nil (WX.then_normal ?_)
              refine WC.seq ?_
              refine WC.seq ?_
              refine WC.region ?_
              refine WL.y rfl (Yld.pure tab_ok rfl) ?_
              refine WL.nil (WX.then_normal ?_)
              refine WC.block ?_
              obtain ⟨I1, mu1, h0_1, HR1⟩ := H
              refine WC.loopF (fun n' L' w' => ∃ (s : List UInt8), ∃ (want : List (List UInt8 × List UInt8)), ∃ (A_want : Option Addr), ∃ (c_want : Nat), ∃ (n_want : Nat), ∃ (i : Int), n' = mu1 s want i ∧ L' = [(1, .slice A_l l.length c_l), (2, .int .i64 at_), (12, vs s), (13, .slice A_want n_want c_want), (14, .int .i64 i)] ∧ I1 s want i ∧ n_want = want.length ∧ w.grownBy w' none ∧ OwnK 64 enc81 w' w.heap.size 81 A_want c_want want) _ _ ⟨([] : List UInt8), [], none, 0, 0, (0 : Int), rfl, rfl, h0_1, rfl, gr4, (OwnK.nil enc81_ok w4 w.heap.size 81)⟩ (by repeat (first | exact Sub.nil | refine Sub.cons rfl ?_)) ?_
              clear h0_1
              rintro _ _ w5 ⟨s, want, A_want, c_want, n_want, i, rfl, rfl, hI1, rfl, gr5, k4⟩
              have H := HR1 s want i hI1
              refine WC.seq ?_
              refine WC.seq ?_
              refine WC.region ?_
              refine WL.y rfl (Yld.pure tab_ok rfl) ?_
              refine WL.y rfl (Yld.pure tab_ok rfl) ?_
              refine WL.y rfl (Yld.pure tab_ok rfl) ?_
              refine WL.y rfl (Yld.pure tab_ok rfl) ?_
              refine WL.nil (WX.then_normal ?_)
              refine WC.cond rfl (fun b4 => ?_) (fun b4 => ?_)
              · replace H := H.1 (of_decide_eq_true b4)
                refine WC.skip (WX.then_normal ?_)
                refine WC.seq ?_
                refine WC.block ?_
                refine WC.seq ?_
                refine WC.region ?_
                refine WL.y rfl (Yld.pure tab_ok rfl) ?_
                refine WL.y rfl (Yld.pure tab_ok rfl) ?_
                obtain ⟨h1, H⟩ := H
                refine WL.y rfl (Yld.iaddrW tab_ok (hl.grown gr5) rfl rfl rfl rfl h1.1 h1.2) ?_
                refine WL.y rfl (Yld.iload 0 tab_ok (hl.grown gr5) rfl rfl (iltN h1 rfl)) ?_
                refine WL.call rfl rfl (W_smithylaw25_name H) ?_
                rintro _ _ ⟨rfl, t65, rfl, H⟩
                refine WL.call rfl rfl (W_key_Source H) ?_
                rintro _ w6 ⟨hg4, t66, rfl, H⟩
                have gr6 := gr_trans gr5 hg4
                have k5 := k4.grown hg4
                refine WL.y rfl (Yld.pure tab_ok rfl) ?_
                refine WL.call rfl rfl (W_smithylaw25_name H) ?_
                rintro _ _ ⟨rfl, t68, rfl, H⟩
                refine WL.call rfl rfl (W_key_Source H) ?_
                rintro _ w7 ⟨hg5, t69, rfl, H⟩
                have gr7 := gr_trans gr6 hg5
                have k6 := k5.grown hg5
                refine WL.y rfl (Yld.struct (us := (a32 t66 ++ a32 t69)) zero78 places78 rfl rfl) ?_
                refine WL.alloc rfl zero78 (fun g1 w8 hB1 hg6 hl1 => ?_)
                have gr8 := gr_trans gr7 hg6
                have k7 := k6.grown hg6
                refine WL.storeW (vs := (a32 t66 ++ a32 t69)) tab_ok rfl rfl rfl (all1a (a32_one _) (all1a (a32_one _) all1n)) hB1 rfl rfl (fun w9 hB2 hg7 => ?_)
                have gr9 := gr_mod gr8 hg7 (Ge.le (Ge.box hl1) (size_le gr7))
                have k8 := k7.go hg7 (Dj.new k6.lt' (Ge.box hl1))
                refine WL.nil (WX.then_normal ?_)
                refine WC.seq ?_
                refine WC.region ?_
                refine WL.y rfl (Yld.pure tab_ok rfl) ?_
                refine WL.y rfl (Yld.pure tab_ok rfl) ?_
                obtain ⟨h2, H⟩ := H
                refine WL.y rfl (Yld.iaddrW tab_ok (hl.grown gr9) rfl rfl rfl rfl h2.1 h2.2) ?_
                refine WL.y rfl (Yld.iload 0 tab_ok (hl.grown gr9) rfl rfl (iltN h2 rfl)) ?_
                refine WL.call rfl rfl (W_smithylaw25_name H) ?_
                rintro _ _ ⟨rfl, t75, rfl, H⟩
                refine WL.call rfl rfl (W_smithyref1_Sum H) ?_
                rintro _ w10 ⟨hg8, t76, rfl, H⟩
                have gr10 := gr_trans gr9 hg8
                have k9 := k8.grown hg8
                have k10 := hB2.g0 hg8
                refine WL.y rfl (Yld.pure tab_ok rfl) ?_
                refine WL.call rfl rfl (W_smithylaw25_name H) ?_
                rintro _ _ ⟨rfl, t78, rfl, H⟩
                refine WL.call rfl rfl (W_smithyref1_Sum H) ?_
                rintro _ w11 ⟨hg9, t79, rfl, H⟩
                have gr11 := gr_trans gr10 hg9
                have k11 := k9.grown hg9
                have k12 := k10.g0 hg9
                refine WL.y rfl (Yld.struct (us := (a32 t76 ++ a32 t79)) zero81 places81 rfl rfl) ?_
                refine WL.alloc rfl zero81 (fun g2 w12 hB3 hg10 hl2 => ?_)
                have gr12 := gr_trans gr11 hg10
                have k13 := k11.grown hg10
                have k14 := k12.g0 hg10
                refine WL.storeW (vs := (a32 t76 ++ a32 t79)) tab_ok rfl rfl rfl (all1a (a32_one _) (all1a (a32_one _) all1n)) hB3 rfl rfl (fun w13 hB4 hg11 => ?_)
                have gr13 := gr_mod gr12 hg11 (Ge.le (Ge.box hl2) (size_le gr11))
                have k15 := k13.go hg11 (Dj.new k11.lt' (Ge.box hl2))
                have k16 := k14.go hg11 (Dj.new k12.lt' (Ge.box hl2))
                refine WL.nil (WX.then_normal ?_)
                refine WC.seq ?_
                refine WC.seq ?_
                refine WC.chainF (fun k => !(Nat.beq k 1 || Nat.beq k 3)) (LD [0, 2] (fun w' => Bl w' g1 78 (a32 t66 ++ a32 t69) ∧ Bl w' g2 81 (a32 t76 ++ a32 t79))) mixed (by kernel_rfl) (fun k w' h _ => ⟨(bl_eqv h k16), (bl_eqv h hB4)⟩) ?_
                refine WJ.y rfl rfl (fun w' hw' => Yld.bagg (vs := (a32 t66 ++ a32 t69)) tab_ok (hw' rfl).1 rfl rfl rfl rfl) ?_
                refine WJ.call rfl (wants_none) rfl rfl (W_cache_Record H) (fun v w' h w2 e => DD.keep (⟨(Bl.g0 k16 (gr_eqv h.1 e)), (Bl.g0 hB4 (gr_eqv h.1 e))⟩)) ?_
                rintro _ w14 ⟨hg12, t82, rfl, H⟩
                have gr14 := gr_trans gr13 hg12
                have k17 := k15.grown hg12
                have k18 := k16.g0 hg12
                have k19 := hB4.g0 hg12
                refine WJ.y rfl rfl (fun w' hw' => Yld.bagg (vs := (a32 t76 ++ a32 t79)) tab_ok (hw' rfl).2 rfl rfl rfl rfl) ?_
                refine WJ.call rfl (wants_none) rfl rfl (W_smithyref17_Record H) (fun v w' h w2 e => DD.keep (⟨(Bl.g0 k18 (gr_eqv h.1 e)), (Bl.g0 k19 (gr_eqv h.1 e))⟩)) ?_
                rintro _ w15 ⟨hg13, t84, rfl, H⟩
                have gr15 := gr_trans gr14 hg13
                have k20 := k17.grown hg13
                have k21 := k18.g0 hg13
                have k22 := k19.g0 hg13
                refine WJ.y rfl rfl (fun w' hw' => Yld.pure tab_ok rfl) ?_
                refine WJ.nil (WX.then_normal ?_)
                refine WC.cond rfl (fun b5 => ?_) (fun b5 => ?_)
                · replace H := H.1 (nd_true b5)
                  refine WC.seq ?_
                  refine WC.region ?_
                  refine WL.y rfl (Yld.pure tab_ok rfl) ?_
                  refine WL.nil (WX.then_normal ?_)
                  refine WC.ret (WX.then_ret (WX.block_ret (WX.then_ret (WX.then_ret (WX.block_ret (WX.then_ret ?_))))))
                  exact WX.ret1 rfl rfl ⟨gr15, false, rfl, H⟩
                · replace H := H.2 (nd_false b5)
                  refine WC.skip (WX.then_normal ?_)
                  refine WC.seq ?_
                  refine WC.region ?_
                  refine WL.y rfl (Yld.pure tab_ok rfl) ?_
                  refine WL.y rfl (Yld.bagg (vs := (a32 t66 ++ a32 t69)) tab_ok k21 rfl rfl rfl rfl) ?_
                  refine WL.call rfl rfl (W_cache_Record H) ?_
                  rintro _ w16 ⟨hg14, t88, rfl, H⟩
                  have gr16 := gr_trans gr15 hg14
                  have k23 := k20.grown hg14
                  have k24 := k22.g0 hg14
                  obtain ⟨h3, H⟩ := H
                  refine WL.y rfl (Yld.sadd rfl rfl h3) ?_
                  refine WL.y rfl (Yld.pure tab_ok rfl) ?_
                  refine WL.nil (WX.then_normal ?_)
                  refine WC.region ?_
                  refine WL.y rfl (Yld.pure tab_ok rfl) ?_
                  refine WL.y rfl (Yld.bagg (vs := (a32 t76 ++ a32 t79)) tab_ok k24 rfl rfl rfl rfl) ?_
                  refine WL.litK (f := enc81) ([(t76, t79)] : List (List UInt8 × List UInt8)) enc81_ok rfl ow69 rfl rfl rfl (fun g3 w17 hB5 hg15 hl3 => ?_)
                  have hO1 : OwnK 64 enc81 w17 w.heap.size 81 (some ⟨g3, 0, none⟩) 1 ([(t76, t79)] : List (List UInt8 × List UInt8)) := OwnK.ofBl enc81_ok hB5 (Nat.le_trans (size_le gr16) hl3) (by simp [maxLen]) rfl
                  have gr17 := gr_trans gr16 hg15
                  have k25 := k23.grown hg15
                  obtain ⟨h4, H⟩ := H
                  refine WL.appendK rfl ow69 k25 rfl rfl hO1.rd rfl rfl h4 (applen h4) (size_le gr17) (fun A_want2 c_want2 w18 hO2 hg16 hk1 => ?_)
                  have gr18 := gr_mod gr17 hg16 k25.ge'
                  refine WL.y rfl (Yld.pure tab_ok rfl) ?_
                  refine WL.nil (WX.block_normal (WX.then_normal ?_))
                  refine WC.region ?_
                  refine WL.y rfl (Yld.pure tab_ok rfl) ?_
                  obtain ⟨h5, H⟩ := H
                  refine WL.y rfl (Yld.add rfl rfl h5) ?_
                  refine WL.y rfl (Yld.pure tab_ok rfl) ?_
                  refine WL.nil ?_
                  exact WX.roundF _ ⟨s ++ t88, want ++ ([(t76, t79)] : List (List UInt8 × List UInt8)), A_want2, c_want2, (want ++ ([(t76, t79)] : List (List UInt8 × List UInt8))).length, i + (1 : Int), rfl, rfl, H.1, rfl, gr18, hO2⟩ (by repeat (first | exact Sub.nil | refine Sub.cons rfl ?_)) H.2
              · replace H := H.2 (of_decide_eq_false b4)
                refine WC.exit (WX.then_exit (WX.then_exit (WX.block_same (WX.then_normal ?_))))
                refine WC.seq ?_
                refine WC.region ?_
                refine WL.y rfl (Yld.pure tab_ok rfl) ?_
                refine WL.y rfl (Yld.pure tab_ok rfl) ?_
                refine WL.y rfl (Yld.pure tab_ok rfl) ?_
                obtain ⟨h6, H⟩ := H
                refine WL.y rfl (Yld.add rfl rfl h6) ?_
                refine WL.call rfl rfl (W_smithyworld_Number H) ?_
                rintro _ _ ⟨rfl, k, rfl, H⟩
                refine WL.y rfl (Yld.pure tab_ok rfl) ?_
                refine WL.nil (WX.then_normal ?_)
                refine WC.seq ?_
                refine WC.region ?_
                refine WL.y rfl (Yld.pure tab_ok rfl) ?_
                refine WL.y rfl (Yld.pure tab_ok rfl) ?_
                obtain ⟨h7, H⟩ := H
                refine WL.y rfl (Yld.scut tab_ok rfl rfl rfl rfl (Int.le_refl 0) h7.1 h7.2) ?_
                refine WL.call rfl rfl (W_cache_Read (hG.grown gr5) hS12 H) ?_
                rintro _ w19 ⟨hg17, t1030, A_t1030, c_t1030, t1031, rfl, ht1030, H⟩
                have hb3 := ht1030.ge'
                have k26 := ht1030.base (fun g hg => Nat.le_trans (size_le gr5) (hb3 g hg))
                have gr19 := gr_trans gr5 hg17
                have k27 := k4.grown hg17
                refine WL.y rfl (Yld.pure tab_ok rfl) ?_
                refine WL.y rfl (Yld.pure tab_ok rfl) ?_
                refine WL.y rfl (Yld.pure tab_ok rfl) ?_
                refine WL.y rfl (Yld.pure tab_ok rfl) ?_
                refine WL.y rfl (Yld.pure tab_ok rfl) ?_
                refine WL.nil (WX.then_normal ?_)
                refine WC.seq ?_
                refine WC.region ?_
                refine WL.y rfl (Yld.pure tab_ok rfl) ?_
                refine WL.y rfl (Yld.pure tab_ok rfl) ?_
                obtain ⟨h8, H⟩ := H
                refine WL.y rfl (Yld.quo rfl rfl h8.1 h8.2.1 h8.2.2) ?_
                obtain ⟨h9, H⟩ := H
                refine WL.y rfl (Yld.mul rfl rfl h9) ?_
                refine WL.y rfl (Yld.pure tab_ok rfl) ?_
                refine WL.y rfl (Yld.pure tab_ok rfl) ?_
                obtain ⟨J2, H, hJ2⟩ := H
                refine WL.midF 7 (fun L' w' => ∃ q4 : Bool, L' = [(118, .bool q4)] ∧ J2 q4 ∧ w.grownBy w' none) ?_ (fun hQ => ?_)
                · clear H
                  rintro _ w20 ⟨q4, rfl, H, gr20⟩
                  replace H := hJ2 q4 H
                  refine WL.y rfl (Yld.pure tab_ok rfl) ?_
                  refine WL.nil (WX.then_normal ?_)
                  refine WC.ret ?_
                  exact WX.ret1 rfl rfl ⟨gr20, q4, rfl, H⟩
                · clear hJ2
                  rcases Bool.eq_false_or_eq_true (decide (t1031 = ((k / (195 : Int)) * (195 : Int)))) with b6 | b6
                  · replace H := H.1 b6
                    refine WL.gyes rfl rfl (okb b6) rfl (Yld.pure tab_ok rfl) ?_
                    refine WL.gyes rfl rfl (okb b6) rfl (Yld.pure tab_ok rfl) ?_
                    refine WL.gyes rfl rfl (okb b6) rfl (Yld.pure tab_ok rfl) ?_
                    obtain ⟨h10, H⟩ := H
                    refine WL.gyes rfl rfl (okb b6) rfl (Yld.quo rfl rfl h10.1 h10.2.1 h10.2.2) ?_
                    obtain ⟨h11, H⟩ := H
                    refine WL.gyes rfl rfl (okb b6) rfl (Yld.ocutYK tab_ok k27.rd rfl rfl rfl rfl rfl h11.1 h11.2) ?_
                    refine WL.callw (wants_some rfl rfl (okb b6)) rfl rfl (W_smithylaw25_same k26.rd rfl (k27.rd.take (k / (195 : Int)).toNat) rfl H) ?_
                    rintro _ w21 ⟨hg18, t117, rfl, H⟩
                    have gr21 := gr_trans gr19 hg18
                    have k28 := k27.grown hg18
                    have k29 := k26.grown hg18
                    refine WL.y rfl (Yld.pickT (okb b6) rfl) ?_
                    exact WL.weaken (by repeat (first | exact Sub.nil | refine Sub.cons rfl ?_)) (hQ _ _ ⟨t117, rfl, H, gr21⟩)
                  · replace H := H.2 b6
                    refine WL.gno rfl rfl (okb b6) rfl ?_
                    refine WL.gno rfl rfl (okb b6) rfl ?_
                    refine WL.gno rfl rfl (okb b6) rfl ?_
                    refine WL.gno rfl rfl (okb b6) rfl ?_
                    refine WL.gno rfl rfl (okb b6) rfl ?_
                    refine WL.gno rfl rfl (okb b6) rfl ?_
                    refine WL.y rfl (Yld.pickF (okb b6) rfl) ?_
                    exact WL.weaken (by repeat (first | exact Sub.nil | refine Sub.cons rfl ?_)) (hQ _ _ ⟨false, rfl, H, gr19⟩)
          · clear hJ1
            rcases Bool.eq_false_or_eq_true (!decide (t381 = t431)) with b7 | b7
            · replace H := H.1 b7
              refine WL.gno rfl rfl (okb b7) rfl ?_
              refine WL.gno rfl rfl (okb b7) rfl ?_
              refine WL.gno rfl rfl (okb b7) rfl ?_
              refine WL.gno rfl rfl (okb b7) rfl ?_
              refine WL.y rfl (Yld.pickT (okb b7) rfl) ?_
              exact WL.weaken (by repeat (first | exact Sub.nil | refine Sub.cons rfl ?_)) (hQ _ _ ⟨true, rfl, H, gr3⟩)
            · replace H := H.2 b7
              refine WL.gyes rfl rfl (okb b7) rfl (Yld.pure tab_ok rfl) ?_
              refine WL.gyes rfl rfl (okb b7) rfl (Yld.pure tab_ok rfl) ?_
              refine WL.callw (wants_some rfl rfl (okb b7)) rfl rfl (W_smithylaw25_same k3.rd rfl k2.rd rfl H) ?_
              rintro _ w22 ⟨hg19, t52, rfl, H⟩
              have gr22 := gr_trans gr3 hg19
              have k30 := k3.grown hg19
              have k31 := k2.grown hg19
              refine WL.gyes rfl rfl (okb b7) rfl (Yld.pure tab_ok rfl) ?_
              refine WL.y rfl (Yld.pickF (okb b7) rfl) ?_
              exact WL.weaken (by repeat (first | exact Sub.nil | refine Sub.cons rfl ?_)) (hQ _ _ ⟨!t52, rfl, H, gr22⟩)
      · clear H
        rcases Bool.eq_false_or_eq_true ((decide ((2000 : Int) < (text.length : Int))) || (decide ((10 : Int) < (l.length : Int)))) with b8 | b8
        · refine WL.gno rfl rfl (okb b8) rfl ?_
          refine WL.gno rfl rfl (okb b8) rfl ?_
          refine WL.y rfl (Yld.pickT (okb b8) rfl) ?_
          exact WL.weaken (by repeat (first | exact Sub.nil | refine Sub.cons rfl ?_)) (hQ _ _ ⟨true, rfl, by rw [b8] <;> rfl, rfl⟩)
        · refine WL.gyes rfl rfl (okb b8) rfl (Yld.pure tab_ok rfl) ?_
          refine WL.gyes rfl rfl (okb b8) rfl (Yld.pure tab_ok rfl) ?_
          refine WL.y rfl (Yld.pickF (okb b8) rfl) ?_
          exact WL.weaken (by repeat (first | exact Sub.nil | refine Sub.cons rfl ?_)) (hQ _ _ ⟨!ok, rfl, by rw [b8] <;> rfl, rfl⟩)
    · clear H
      rcases Bool.eq_false_or_eq_true (decide ((2000 : Int) < (text.length : Int))) with b9 | b9
      · refine WL.gno rfl rfl (okb b9) rfl ?_
        refine WL.gno rfl rfl (okb b9) rfl ?_
        refine WL.gno rfl rfl (okb b9) rfl ?_
        refine WL.y rfl (Yld.pickT (okb b9) rfl) ?_
        exact WL.weaken (by repeat (first | exact Sub.nil | refine Sub.cons rfl ?_)) (hQ _ _ ⟨true, rfl, by rw [b9] <;> rfl, rfl⟩)
      · refine WL.gyes rfl rfl (okb b9) rfl (Yld.pure tab_ok rfl) ?_
        refine WL.gyes rfl rfl (okb b9) rfl (Yld.pure tab_ok rfl) ?_
        refine WL.gyes rfl rfl (okb b9) rfl (Yld.pure tab_ok rfl) ?_
        refine WL.y rfl (Yld.pickF (okb b9) rfl) ?_
        exact WL.weaken (by repeat (first | exact Sub.nil | refine Sub.cons rfl ?_)) (hQ _ _ ⟨decide ((10 : Int) < (l.length : Int)), rfl, by rw [b9] <;> rfl, rfl⟩)

end Go.Proofs.YtlonpmajnglmoaaDoor

 /- The chapter's digest is the program's: plain. -/
namespace Go.Proofs.YtlonpmajnglmoaaDoor
open Go Go.RowKit
theorem bits_or_comm (k : IntKind) (a b : Int) : bits .or k a b = bits .or k b a := by
  unfold bits
  dsimp only
  rw [BitVec.or_comm]
theorem wr32 (z : Int) : IntKind.wrap .u32 z = z % 4294967296 := by simp [IntKind.wrap, IntKind.bits, IntKind.signed]
theorem wr64 (z : Int) : IntKind.wrap .u64 z = z % 18446744073709551616 := by simp [IntKind.wrap, IntKind.bits, IntKind.signed]
theorem wr8 (z : Int) : IntKind.wrap .u8 z = z % 256 := by simp [IntKind.wrap, IntKind.bits, IntKind.signed]
theorem wr8_ok (z : Int) : 0 ≤ IntKind.wrap .u8 z ∧ IntKind.wrap .u8 z ≤ 255 := by rw [wr8]; omega
theorem turn_M {x n : Int} {K : Int → Prop} (h0 : 0 < n) (h1 : n < 32) (h : K (rotr x n)) : M_smithyref1_turn x n K := by
  have hw : IntKind.wrap .u64 (32 - n) = 32 - n := by rw [wr64]; omega
  have e : rotr x n = bits .or .u32 (shrV .u32 x n.toNat) (shlV .u32 x (32 - n).toNat) := by
    unfold rotr rotl
    rw [show (0 - n) % 32 = 32 - n by omega, show 32 - (32 - n) = n by omega, bits_or_comm]
  refine ⟨by omega, by rw [hw]; omega, ?_⟩
  rw [hw, ← e]
  exact h
theorem D_len : ∀ (n : Nat) (hs : List Int) (x : List UInt8), x.length ≤ n → (D hs x).2.length = x.length % 64
  | 0, hs, x, h => by
    rw [D_step, if_neg (by omega)]
    show x.length = _
    omega
  | n + 1, hs, x, h => by
    rw [D_step]
    split
    · rw [D_len n _ _ (by rw [List.length_drop]; omega), List.length_drop]; omega
    · show x.length = _
      omega
theorem shaS_whole (b : List UInt8) : shaS b = outAt (D h0s (endS b (b.length : Int))).1 32 := by
  unfold shaS sumS
  rw [absorb_fuel _ _ _ (Nat.le_refl _)]
  have e : wrS h0s [] b = D h0s b := by unfold wrS D; rw [List.nil_append]
  rw [e]
  have h1 : endS b (b.length : Int) = b ++ ([128] ++ List.replicate ((120 - (b.length + 1) % 64) % 64) 0 ++ lenBs (8 * (b.length : Int)) 8) := by
    unfold endS padS; simp
  have h2 : endS (D h0s b).2 (b.length : Int) = (D h0s b).2 ++ ([128] ++ List.replicate ((120 - (b.length + 1) % 64) % 64) 0 ++ lenBs (8 * (b.length : Int)) 8) := by
    have h3 := D_len _ h0s b (Nat.le_refl _)
    have h4 : (120 - ((D h0s b).2 ++ [(128 : UInt8)]).length % 64) % 64 = (120 - (b.length + 1) % 64) % 64 := by
      rw [List.length_append, h3, List.length_singleton]; omega
    unfold endS padS
    rw [h4]; simp
  rw [h1, h2, D_app _ b.length h0s b (Nat.le_refl _)]
theorem padS_ge (l : List UInt8) : l.length ≤ (padS l).length ∧ (padS l).length ≤ l.length + 63 ∧ (padS l).length % 64 = 56 := by
  unfold padS
  rw [List.length_append, List.length_replicate]
  omega
theorem padS_id {l : List UInt8} (h : l.length % 64 = 56) : padS l = l := by
  unfold padS
  rw [show (120 - l.length % 64) % 64 = 0 by omega]
  simp
theorem endS_len (s : List UInt8) : (endS s (s.length : Int)).length % 64 = 0 ∧ (endS s (s.length : Int)).length ≤ s.length + 72 := by
  have := padS_ge (s ++ [128])
  unfold endS
  rw [List.length_append, lenBs_len]
  rw [List.length_append, List.length_singleton] at this
  omega
theorem getbs (M : List UInt8) (a j : Nat) (hj : j < 64) : ((M.drop a).take 64).getD j 0 = M.getD (a + j) 0 := by
  simp [List.getD, List.getElem?_take, hj]
theorem table_M {K : List Int → Prop} (h : K ktab) : M_smithyref1_table K := h
theorem sum_M {s : List UInt8} {K : List UInt8 → Prop} (hs : s.length ≤ 1000000) (h : K (shaS s)) : M_smithyref1_Sum s K := by
  have hP := padS_ge (s ++ [128])
  have hPl : (s ++ [(128 : UInt8)]).length = s.length + 1 := by simp
  rw [hPl] at hP
  have hE := endS_len s
  refine table_M ⟨by simp only [In]; omega, by omega, by simp; omega, by simp; omega, ?_⟩
  refine ⟨fun m => padS m = padS (s ++ [128]), fun m => (padS (s ++ [128])).length - m.length, by rw [List.nil_append], fun m hm => ⟨by omega, fun h56 => ?_, fun h56 => ?_⟩⟩
  · have h1 : m.length % 64 ≠ 56 := by omega
    have h2 := padS_step m h1
    have h3 := (padS_ge (m ++ [0])).1
    rw [h2, hm, List.length_append, List.length_singleton] at h3
    refine ⟨by simp only [List.length_singleton]; omega, h2.trans hm, ?_⟩
    dsimp only
    rw [List.length_append, List.length_singleton]
    omega
  have hm : padS m = padS (s ++ [128]) := hm
  rw [padS_id (l := m) (by omega)] at hm
  subst hm
  have hn8 : IntKind.wrap .u64 ((IntKind.wrap .u64 (s.length : Int)) * (8 : Int)) = 8 * (s.length : Int) := by rw [wr64, wr64]; omega
  rw [hn8]
  refine ⟨fun m2 i => -1 ≤ i ∧ i ≤ 7 ∧ m2 = padS (s ++ [128]) ++ lenBs (8 * (s.length : Int)) (7 - i).toNat, fun _ i => (i + 1).toNat, ⟨by omega, by omega, by simp [lenBs]⟩, fun m2 i ⟨a0, a1, a2⟩ => ⟨fun hlt => ?_, fun hge => ?_⟩⟩
  · have e8 : IntKind.wrap .u64 ((8 : Int) * i) = 8 * i := by rw [wr64]; omega
    have hb : UInt8.ofNat (IntKind.wrap .u8 (shrV .u64 (8 * (s.length : Int)) (8 * i).toNat)).toNat = lenB (8 * (s.length : Int)) (7 - i).toNat := by
      unfold lenB u8v
      rw [show (8 * (7 - (((7 - i).toNat : Nat) : Int))).toNat = (8 * i).toNat by omega]
    have hl2 : m2.length ≤ s.length + 80 := by rw [a2, List.length_append, lenBs_len]; omega
    rw [e8, hb]
    refine ⟨by simp only [In]; omega, by omega, wr8_ok _, by simp only [List.length_singleton]; omega, by simp only [In]; omega, ⟨by omega, by omega, ?_⟩, by dsimp only; omega⟩
    rw [show (7 - (i - 1)).toNat = (7 - i).toNat + 1 by omega, lenBs, ← List.append_assoc, ← a2]
  have hm2 : m2 = endS s (s.length : Int) := by
    rw [a2, show (7 - i).toNat = 8 by omega]; rfl
  clear a2 hn8
  subst hm2
  generalize hMd : endS s (s.length : Int) = M at *
  rw [shaS_whole, hMd] at h
  refine ⟨fun at_ hh => 0 ≤ at_ ∧ at_ ≤ M.length ∧ at_ % 64 = 0 ∧ hh.length = 8 ∧ D h0s M = D hh (M.drop at_.toNat), fun at_ _ => M.length - at_.toNat, ⟨by omega, by omega, by omega, rfl, rfl⟩, fun at_ hh ⟨b0, b1, b2, b3, b4⟩ _ => ⟨fun hlt => ⟨by omega, ?_⟩, fun hge => ?_⟩⟩
  · have hfit : at_ + 64 ≤ M.length := by omega
    generalize hbs : (M.drop at_.toNat).take 64 = bs
    have hget : ∀ j : Nat, j < 64 → M.getD (at_.toNat + j) 0 = bs.getD j 0 := fun j hj => by rw [← hbs, getbs M _ j hj]
    refine ⟨fun i w_ => 0 ≤ i ∧ i ≤ 16 ∧ w_ = wsAt bs i.toNat, fun i _ => 16 - i.toNat, ⟨by omega, by omega, rfl⟩, fun i w_ ⟨c0, c1, c2⟩ _ => ⟨fun hi => ?_, fun hi => ?_⟩⟩
    · refine ⟨by simp only [In]; omega, by simp only [In]; omega, by omega, by simp only [In]; omega, by simp only [In]; omega, by simp only [In]; omega, by omega, by simp only [In]; omega, by simp only [In]; omega, by simp only [In]; omega, by omega, by simp only [In]; omega, by simp only [In]; omega, by simp only [In]; omega, by omega, by omega, by simp only [In]; omega, ⟨by omega, by omega, ?_⟩, by dsimp only; omega⟩
      rw [show (i + 1).toNat = i.toNat + 1 by omega, wsAt, ← c2]
      congr 1
      rw [wnext, if_pos (by omega)]
      rw [show (at_ + 4 * i).toNat = at_.toNat + (4 * i.toNat) by omega, show (at_ + 4 * i + 1).toNat = at_.toNat + (4 * i.toNat + 1) by omega, show (at_ + 4 * i + 2).toNat = at_.toNat + (4 * i.toNat + 2) by omega, show (at_ + 4 * i + 3).toNat = at_.toNat + (4 * i.toNat + 3) by omega]
      rw [hget _ (by omega), hget _ (by omega), hget _ (by omega), hget _ (by omega)]
    refine ⟨fun i w_ => 16 ≤ i ∧ i ≤ 64 ∧ w_ = wsAt bs i.toNat, fun i _ => 64 - i.toNat, ⟨by omega, by omega, by rw [c2, show i.toNat = 16 by omega]; rfl⟩, fun i3 w_2 ⟨d0, d1, d2⟩ _ => ⟨fun hi3 => ?_, fun hi3 => ?_⟩⟩
    · refine ⟨by simp only [In]; omega, by omega, turn_M (by decide) (by decide) ⟨by simp only [In]; omega, by omega, turn_M (by decide) (by decide) ⟨by simp only [In]; omega, by omega, by simp only [In]; omega, by omega, turn_M (by decide) (by decide) ⟨by simp only [In]; omega, by omega, turn_M (by decide) (by decide) ⟨by simp only [In]; omega, by omega, by simp only [In]; omega, by omega, by simp only [In]; omega, by omega, by omega, by simp only [In]; omega, ⟨by omega, by omega, ?_⟩, by dsimp only; omega⟩⟩⟩⟩⟩
      rw [show (i3 + 1).toNat = i3.toNat + 1 by omega, wsAt, ← d2]
      congr 1
      rw [wnext, if_neg (by omega)]
      rw [show (i3 - 15).toNat = i3.toNat - 15 by omega, show (i3 - 2).toNat = i3.toNat - 2 by omega, show (i3 - 16).toNat = i3.toNat - 16 by omega, show (i3 - 7).toNat = i3.toNat - 7 by omega]
      dsimp only
      generalize bits .xor .u32 _ _ = A
      generalize bits .xor .u32 _ _ = B
      generalize w_2.getD (i3.toNat - 16) 0 = x
      generalize w_2.getD (i3.toNat - 7) 0 = y
      simp only [wr32]
      omega
    obtain rfl : i3 = 64 := by omega
    have e64 : (64 : Int).toNat = 64 := rfl
    have e8 : (8 : Int).toNat = 8 := rfl
    rw [e64] at d2
    refine ⟨by omega, by simp [b3], ?_⟩
    refine ⟨fun v i => 0 ≤ i ∧ i ≤ 64 ∧ v = hAt w_2 hh i.toNat, fun _ i => 64 - i.toNat, ⟨by omega, by omega, by rw [List.nil_append]; rfl⟩, fun v i4 ⟨e0, e1, e2⟩ => ⟨fun hi4 => ?_, fun hi4 => ?_⟩⟩
    · have hv : v.length = 8 := by rw [e2]; exact hAt_len _ _ b3 _
      have hk : ktab.length = 64 := rfl
      refine ⟨by omega, turn_M (by decide) (by decide) ⟨by omega, turn_M (by decide) (by decide) ⟨by omega, turn_M (by decide) (by decide) ⟨by omega, by omega, by omega, by omega, by omega, by omega, by omega, by omega, turn_M (by decide) (by decide) ⟨by omega, turn_M (by decide) (by decide) ⟨by omega, turn_M (by decide) (by decide) ⟨by omega, by omega, by omega, by omega, by omega, by omega, by omega, by omega, by omega, by omega, by omega, by omega, by omega, by simp only [In]; omega, ⟨by omega, by omega, ?_⟩, by dsimp only; omega⟩⟩⟩⟩⟩⟩⟩
      have hmax : (if IntKind.signed .u32 = true then (-1 : Int) else IntKind.max .u32) = IntKind.u32.max := rfl
      rw [show (i4 + 1).toNat = i4.toNat + 1 by omega, hAt, ← e2, hnext, hmax]
      generalize IntKind.wrap .u32 (IntKind.wrap .u32 (IntKind.wrap .u32 (IntKind.wrap .u32 (v.getD 7 0 + _) + _) + _) + _) = one
      have e3 : ∀ A B : Int, IntKind.wrap .u32 (IntKind.wrap .u32 (one + A) + B) = IntKind.wrap .u32 (one + IntKind.wrap .u32 (A + B)) := fun A B => by
        simp only [wr32]
        omega
      rw [e3]
    obtain rfl : i4 = 64 := by omega
    have hv : v.length = 8 := by rw [e2]; exact hAt_len _ _ b3 _
    refine ⟨fun i h2 => 0 ≤ i ∧ i ≤ 8 ∧ h2 = sumAt hh v i.toNat, fun i _ => 8 - i.toNat, ⟨by omega, by omega, rfl⟩, fun i5 h2 ⟨f0, f1, f2⟩ _ => ⟨fun hi5 => ?_, fun hi5 => ?_⟩⟩
    · refine ⟨by omega, by omega, by omega, by simp only [In]; omega, ⟨by omega, by omega, ?_⟩, by dsimp only; omega⟩
      rw [show (i5 + 1).toNat = i5.toNat + 1 by omega, sumAt, ← f2]
    obtain rfl : i5 = 8 := by omega
    have hmix : h2 = mixS hh bs := by rw [f2, e2, e64, e8, d2, mixS]
    refine ⟨by simp only [In]; omega, ⟨by omega, by omega, by omega, by rw [hmix, mixS_len]; exact b3, ?_⟩, by dsimp only; omega⟩
    rw [b4, D_step, if_pos (by rw [List.length_drop]; omega), hbs, ← hmix, List.drop_drop]
    rw [show (at_ + 64).toNat = at_.toNat + 64 by omega]
  have hd : M.drop at_.toNat = [] := List.drop_eq_nil_of_le (by omega)
  rw [hd, D_step hh [], if_neg (by simp)] at b4
  have hh1 : (D h0s M).1 = hh := by rw [b4]
  rw [hh1] at h
  refine ⟨fun i o => 0 ≤ i ∧ i ≤ 8 ∧ o = outAt hh (4 * i).toNat, fun i _ => 8 - i.toNat, ⟨by omega, by omega, rfl⟩, fun i6 o ⟨g0, g1, g2⟩ => ⟨fun hi6 => ?_, fun hi6 => ?_⟩⟩
  · refine ⟨fun j o => 0 ≤ j ∧ j ≤ 4 ∧ o = outAt hh (4 * i6 + j).toNat, fun j _ => 4 - j.toNat, ⟨by omega, by omega, by rw [g2, Int.add_zero]⟩, fun j o2 ⟨p0, p1, p2⟩ => ⟨fun hj => ?_, fun hj => ?_⟩⟩
    · have e64 : IntKind.wrap .u64 (24 - 8 * j) = 24 - 8 * j := by rw [wr64]; omega
      rw [e64]
      refine ⟨by simp only [In]; omega, by simp only [In]; omega, by omega, by simp only [In]; omega, by simp only [In]; omega, by omega, by omega, wr8_ok _, by rw [p2]; exact outAt_len _ _, by simp only [In]; omega, ⟨by omega, by omega, ?_⟩, by dsimp only; omega⟩
      rw [show (4 * i6 + (j + 1)).toNat = (4 * i6 + j).toNat + 1 by omega, outAt, ← p2]
      congr 1
      unfold u8v
      rw [show (4 * i6 + j).toNat / 4 = i6.toNat by omega, show (24 - 8 * ((((4 * i6 + j).toNat : Nat) : Int) % 4)) = 24 - 8 * j by omega]
    · refine ⟨by simp only [In]; omega, ⟨by omega, by omega, ?_⟩, by dsimp only; omega⟩
      rw [p2, show 4 * (i6 + 1) = 4 * i6 + j by omega]
  · rw [g2, show (4 * i6).toNat = 32 by omega]
    exact h
end Go.Proofs.YtlonpmajnglmoaaDoor


 /- The digests of the chapter: plain. -/
namespace Go.Proofs.YtlonpmajnglmoaaDoor
open Go Go.RowKit
theorem getD_memH {α : Type} {l : List α} {k : Nat} {d : α} (h : k < l.length) : l.getD k d ∈ l := by
  simp [List.getD, h]
theorem hex_M {s : List UInt8} {K : List UInt8 → Prop} (hl : s.length = 32) (h : K (hexS s)) : M_smithyref1_Hex s K := by
  refine ⟨by omega, fun out i => 0 ≤ i ∧ i ≤ 32 ∧ out = hexS (s.take i.toNat), fun _ i => 32 - i.toNat, ⟨by omega, by omega, rfl⟩, fun out i ⟨a0, a1, a2⟩ => ⟨fun hlt => ?_, fun hge => ?_⟩⟩
  · have hs := shr_4 (s.getD i.toNat 0)
    have ha := and_15 (s.getD i.toNat 0)
    have ho : out.length ≤ 64 := by rw [a2, hexS_len, List.length_take]; omega
    refine ⟨by omega, by simp only [List.length_cons, List.length_nil]; omega, by omega, by simp only [List.length_cons, List.length_nil]; omega, by simp only [List.length_cons, List.length_nil]; omega, by simp only [In]; omega, ⟨by omega, by omega, ?_⟩, by dsimp only; omega⟩
    rw [show (i + 1).toNat = i.toNat + 1 by omega, hexS_take s i.toNat (by omega), ← a2]
    rfl
  · rw [a2, show i.toNat = 32 by omega, List.take_of_length_le (by omega)]
    exact h
theorem text_M {s : List UInt8} {K : List UInt8 → Prop} (hl : s.length = 32) (h : K (hexS s)) : M_sha_Text s K := by
  intro t ht he
  have : t = s := List.ext_getElem (by omega) fun i h1 h2 => by
    have := he i (by omega)
    simpa [List.getD, h1, h2] using this
  rw [this]; exact h
theorem sameSum_M {a b : List UInt8} {K : Bool → Prop} (ha : a.length = 32) (hb : b.length = 32) (h : K (decide (hexS a = hexS b))) : M_smithyref17_SameSum a b K := hex_M ha (hex_M hb h)
theorem catM_le (l : List (List UInt8)) (h : ∀ x ∈ l, x.length ≤ 1000) : (catM l).length ≤ 1004 * l.length := by
  induction l with
  | nil => simp [catM]
  | cons x l ih =>
    have hx := h x (by simp)
    have := ih (fun y hy => h y (by simp [hy]))
    have e : catM (x :: l) = be4 x.length ++ x ++ catM l := rfl
    have hb : (be4 x.length).length = 4 := rfl
    rw [e, List.length_append, List.length_append, hb, List.length_cons]
    omega
theorem rmany_M {l : List (List UInt8)} {K : List UInt8 → Prop} (hl : l.length ≤ 500) (hx : ∀ x ∈ l, x.length ≤ 1000) (h : K (manyS l)) : M_smithyref1_Many l K := by
  intro _
  refine ⟨fun m i => 0 ≤ i ∧ i ≤ l.length ∧ m = catM (l.take i.toNat), fun _ i => l.length - i.toNat, ⟨by omega, by omega, rfl⟩, fun m i ⟨a0, a1, a2⟩ => ⟨fun hlt => ?_, fun hge => ?_⟩⟩
  · have h1 := hx _ (getD_memH (l := l) (k := i.toNat) (d := []) (by omega))
    have hm : m.length ≤ 1004 * 500 := by
      have := catM_le (l.take i.toNat) fun x hx' => hx x (List.mem_of_mem_take hx')
      rw [List.length_take] at this
      rw [a2]; omega
    refine ⟨by omega, wr8_ok _, wr8_ok _, wr8_ok _, wr8_ok _, by simp only [List.length_cons, List.length_nil]; omega, by omega, by simp only [List.length_append, List.length_cons, List.length_nil]; omega, by simp only [In]; omega, ⟨by omega, by omega, ?_⟩, by dsimp only; omega⟩
    rw [show (i + 1).toNat = i.toNat + 1 by omega, catM_take l i.toNat (by omega), ← a2, ← List.append_assoc]
    rfl
  · have hm := catM_le l hx
    rw [a2, List.take_of_length_le (by omega)]
    refine sum_M (by omega) ?_
    rw [← manyS_eq]
    exact h
end Go.Proofs.YtlonpmajnglmoaaDoor


 namespace Go.Proofs.YtlonpmajnglmoaaDoor
open Go Go.RowKit
attribute [local irreducible] WL WC WX WQ WK Yld Eff Ef0 Fn
/-! a digest's digits are parsed as_ it -/
def pairV (x y : UInt8) : Option UInt8 := match digV x, digV y with
  | some a, some b => some (u8v (bits .or .u8 (shlV .u8 (a : Int) 4) (b : Int)))
  | _, _ => none
theorem pair_hex (b : UInt8) : pairV ((hexB b).getD 0 0) ((hexB b).getD 1 0) = some b := by
  have h : (List.range 256).all (fun n => pairV ((hexB (UInt8.ofNat n)).getD 0 0) ((hexB (UInt8.ofNat n)).getD 1 0) == some (UInt8.ofNat n)) = true := by kernel_rfl
  have := List.all_eq_true.mp h b.toNat (List.mem_range.mpr b.toNat_lt)
  have e : UInt8.ofNat b.toNat = b := UInt8.ofNat_toNat
  rw [e] at this
  simpa using this
theorem parN_step (s : List UInt8) (n : Nat) : parN s (n + 1) = match parN s n, pairV (s.getD (2 * n) 0) (s.getD (2 * n + 1) 0) with
    | some l, some x => some (l ++ [x])
    | _, _ => none := by
  rw [parN, pairV]
  cases parN s n <;> cases digV (s.getD (2 * n) 0) <;> cases digV (s.getD (2 * n + 1) 0) <;> rfl
theorem hexS_at : ∀ (l : List UInt8) (i : Nat), i < l.length → (hexS l).getD (2 * i) 0 = (hexB (l.getD i 0)).getD 0 0 ∧ (hexS l).getD (2 * i + 1) 0 = (hexB (l.getD i 0)).getD 1 0
  | [], i, h => by simp at h
  | b :: l, 0, _ => ⟨rfl, rfl⟩
  | b :: l, i + 1, h => by
    have := hexS_at l i (by simpa using h)
    have e1 : (hexS (b :: l)).getD (2 * (i + 1)) 0 = (hexS l).getD (2 * i) 0 := rfl
    have e2 : (hexS (b :: l)).getD (2 * (i + 1) + 1) 0 = (hexS l).getD (2 * i + 1) 0 := rfl
    rw [e1, e2]
    exact this
theorem parN_hex (l : List UInt8) : ∀ n, n ≤ l.length → parN (hexS l) n = some (l.take n)
  | 0, _ => rfl
  | n + 1, h => by
    have ih := parN_hex l n (by omega)
    have hp := hexS_at l n (by omega)
    rw [parN_step, ih, hp.1, hp.2, pair_hex]
    show some (l.take n ++ [l.getD n 0]) = _
    rw [List.take_succ_eq_append_getElem (by omega)]
    simp [List.getD, show n < l.length by omega]
theorem parS_hex (l : List UInt8) (h : l.length = 32) : parS (hexS l) = some l := by
  unfold parS
  rw [if_pos (by rw [hexS_len]; omega), parN_hex l 32 (by omega), List.take_of_length_le (by omega)]
/-- the state that has taken bytes in -/
def StB (w : World) (g : Nat) (b : List UInt8) : Prop := St w g (wrS h0s [] b).1 (wrS h0s [] b).2 (b.length : Int)
theorem StB.keep {w w' : World} {g : Nat} {b : List UInt8} {row : Option Nat} (h : StB w g b) (hg : w.grownBy w' row) (hr : row ≠ some g) (hr2 : ∀ q, row = some q → w.heap.size ≤ q) : StB w' g b := by
  obtain ⟨q1, A', c', q2, q3, q4⟩ := h
  refine ⟨q1, A', c', q2.keep hg hr, q3.keep' hg (fun hne q hq e => ?_), q4⟩
  have := q3.lt hne e
  have := hr2 q hq
  omega
theorem StB.grown {w w' : World} {g : Nat} {b : List UInt8} (h : StB w g b) (hg : w.grownBy w' none) : StB w' g b := h.keep hg (by simp) (by simp)
end Go.Proofs.YtlonpmajnglmoaaDoor

 /- Paths, plainly: cut at slashes, fair parts, what is valid. -/
namespace Go.Proofs.YtlonpmajnglmoaaDoor
open Go Go.RowKit
def cuts : List UInt8 → List (List UInt8)
  | [] => [[]]
  | c :: s => if c = 47 then [] :: cuts s else match cuts s with
    | [] => [[c]]
    | h :: t => (c :: h) :: t
theorem cuts_ne (s : List UInt8) : cuts s ≠ [] := by
  cases s with
  | nil => simp [cuts]
  | cons c s =>
    unfold cuts
    split
    · simp
    · split <;> simp
theorem split_cuts : ∀ s : List UInt8, Lib.split s [47] = cuts s
  | [] => by simp [Lib.split, Lib.count_miss, Lib.index, Lib.splitK, cuts]
  | c :: s => by
    have ih := split_cuts s
    unfold Lib.split at ih ⊢
    by_cases hc : c = 47
    · subst hc
      have hix : Lib.index (47 :: s) [47] = 0 := by rw [Lib.index]; simp [List.isPrefixOf]
      rw [Lib.count_cons_eq, Nat.add_comm, Lib.splitK, if_neg (by rw [hix]; decide), hix]
      simp only [cuts, if_true]
      rw [← ih]
      simp
    · have hp : ([47] : List UInt8).isPrefixOf (c :: s) = false := by simp [List.isPrefixOf, Ne.symm hc]
      have hix : Lib.index (c :: s) [47] = if Lib.index s [47] == -1 then -1 else Lib.index s [47] + 1 := by rw [Lib.index, hp]; simp
      rw [Lib.count_cons_ne c 47 s hc]
      simp only [cuts, if_neg hc]
      rw [← ih]
      cases hk : Lib.count s [47] with
      | zero => simp [Lib.splitK]
      | succ k =>
        have hne : Lib.index s [47] ≠ -1 := fun e => by rw [Lib.count_miss e] at hk; cases hk
        have hge := Lib.index_ge s [47]
        obtain ⟨j, hj⟩ : ∃ j : Nat, Lib.index s [47] = j := ⟨(Lib.index s [47]).toNat, by omega⟩
        have hix' : Lib.index (c :: s) [47] = ((j + 1 : Nat) : Int) := by rw [hix, if_neg (fun e => hne (beq_iff_eq.1 e)), hj]; omega
        rw [Lib.splitK, Lib.splitK, if_neg (fun e => hne (beq_iff_eq.1 e)), if_neg (by rw [hix']; simp; omega), hix', hj]
        simp
theorem splitL_cuts (s : List UInt8) : splitL [47] s = cuts s := split_cuts s
theorem cuts_length (s : List UInt8) : (cuts s).length ≤ s.length + 1 := by
  induction s with
  | nil => simp [cuts]
  | cons c s ih =>
    unfold cuts
    split
    · simp; omega
    · split
      · simp
      · rename_i h t e; rw [e] at ih; simp at ih ⊢; omega
theorem split_M {s : List UInt8} {K : List (List UInt8) → Prop} (hs : s.length ≤ 4000000000) (h : K (cuts s)) : M_strings_Split s [47] K :=
  ⟨by omega, by simp, by rw [splitL_cuts]; exact h⟩
/-- a byte that may be in a part -/
def letB (c : UInt8) : Bool := (((decide (48 ≤ c.toNat) && decide (c.toNat ≤ 57)) || (decide (65 ≤ c.toNat) && decide (c.toNat ≤ 90))) || (decide (97 ≤ c.toNat) && decide (c.toNat ≤ 122))) || ([33, 35, 37, 43, 44, 45, 46, 61, 64, 95, 126] : List UInt8).contains c
theorem indexByte_contains (l : List UInt8) (c : UInt8) : decide (0 ≤ Lib.indexByte l c) = l.contains c := by
  induction l with
  | nil => simp [Lib.indexByte]
  | cons b l ih =>
    unfold Lib.indexByte
    by_cases h : b = c
    · subst h; simp
    · have hge := Lib.indexByte_ge l c
      rw [if_neg (by simpa using h)]
      have hc : (b :: l).contains c = l.contains c := by simp [Ne.symm h]
      rw [hc, ← ih]
      by_cases h1 : Lib.indexByte l c = -1
      · rw [if_pos (by simpa using h1), h1]
      · rw [if_neg (by simpa using h1), decide_eq_decide]; omega
theorem letter_M {c : UInt8} {K : Bool → Prop} (h : K (letB c)) : M_path_letter (c.toNat : Int) K := by
  have e : ((((decide ((48 : Int) ≤ (c.toNat : Int))) && (decide ((c.toNat : Int) ≤ (57 : Int)))) || ((decide ((65 : Int) ≤ (c.toNat : Int))) && (decide ((c.toNat : Int) ≤ (90 : Int))))) || ((decide ((97 : Int) ≤ (c.toNat : Int))) && (decide ((c.toNat : Int) ≤ (122 : Int))))) = (((decide (48 ≤ c.toNat) && decide (c.toNat ≤ 57)) || (decide (65 ≤ c.toNat) && decide (c.toNat ≤ 90))) || (decide (97 ≤ c.toNat) && decide (c.toNat ≤ 122))) := by
    have d : ∀ a b : Nat, decide ((a : Int) ≤ (b : Int)) = decide (a ≤ b) := fun a b => by rw [decide_eq_decide]; omega
    have d1 : decide ((48 : Int) ≤ (c.toNat : Int)) = decide (48 ≤ c.toNat) := d 48 c.toNat
    have d2 : decide ((c.toNat : Int) ≤ (57 : Int)) = decide (c.toNat ≤ 57) := d c.toNat 57
    have d3 : decide ((65 : Int) ≤ (c.toNat : Int)) = decide (65 ≤ c.toNat) := d 65 c.toNat
    have d4 : decide ((c.toNat : Int) ≤ (90 : Int)) = decide (c.toNat ≤ 90) := d c.toNat 90
    have d5 : decide ((97 : Int) ≤ (c.toNat : Int)) = decide (97 ≤ c.toNat) := d 97 c.toNat
    have d6 : decide ((c.toNat : Int) ≤ (122 : Int)) = decide (c.toNat ≤ 122) := d c.toNat 122
    rw [d1, d2, d3, d4, d5, d6]
  unfold M_path_letter
  rw [e]
  unfold letB at h
  refine ⟨fun h1 => ?_, fun h1 => ?_⟩
  · rw [h1] at h; exact h
  · rw [h1, Bool.false_or] at h
    unfold M_strings_IndexByte
    rw [show ((c.toNat : Int).toNat.toUInt8) = c by simp]
    show K (decide (0 ≤ Lib.indexByte _ _))
    rw [indexByte_contains]
    exact h
def dotsB (s : List UInt8) : Bool := (decide (s = []) || decide (s = [46])) || decide (s = [46, 46])
def fairB (s : List UInt8) : Bool := s.all letB && !dotsB s
theorem take_all_succ {p : UInt8 → Bool} {s : List UInt8} {k : Nat} (h : (s.take k).all p = true) (hk : k < s.length) (hp : p (s.getD k 0) = true) : (s.take (k + 1)).all p = true := by
  rw [List.take_succ_eq_append_getElem hk, List.all_append, h]
  simpa [List.getD, hk] using hp
theorem fair_M {s : List UInt8} {K : Bool → Prop} (hs : s.length ≤ 4000000000) (h : K (fairB s)) : M_path_fair s K := by
  unfold M_path_fair
  refine ⟨fun i => ∃ k : Nat, i = k ∧ k ≤ s.length ∧ (s.take k).all letB = true, fun i => (s.length - i.toNat), ⟨0, rfl, by omega, by simp⟩, ?_⟩
  rintro _ ⟨k, rfl, hk, hall⟩
  refine ⟨fun hlt => ⟨by omega, letter_M ?_⟩, fun hge => ?_⟩
  · have hk' : k < s.length := by omega
    rw [Int.toNat_natCast]
    cases hl : letB (s.getD k 0) with
    | false =>
      refine ⟨fun _ => ?_, fun h1 => by simp at h1⟩
      have : s.all letB = false := by
        rw [List.all_eq_false]
        exact ⟨s.getD k 0, by simp [List.getD, hk'], by rw [hl]; simp⟩
      unfold fairB at h
      rw [this] at h
      exact h
    | true => exact ⟨fun h1 => by simp at h1, fun _ => ⟨by simp only [In]; omega, ⟨k + 1, by omega, by omega, take_all_succ hall hk' hl⟩, by dsimp only; omega⟩⟩
  · obtain rfl : k = s.length := by omega
    rw [List.take_length] at hall
    unfold fairB at h
    rw [hall, Bool.true_and] at h
    exact h
def validB (p : List UInt8) : Bool := decide (p.length ≤ 200) && (cuts p).all fairB
theorem cuts_part {s x : List UInt8} (h : x ∈ cuts s) : x.length ≤ s.length := by
  induction s generalizing x with
  | nil => simp [cuts] at h; subst h; simp
  | cons c s ih =>
    unfold cuts at h
    split at h
    · rcases List.mem_cons.1 h with rfl | h
      · simp
      · have := ih h; simp; omega
    · split at h
      · rename_i e; exact absurd e (cuts_ne s)
      · rename_i y t e
        rcases List.mem_cons.1 h with rfl | h
        · have := ih (x := y) (by rw [e]; simp); simp; omega
        · have := ih (x := x) (by rw [e]; simp [h]); simp; omega
theorem getD_mem {α : Type} {l : List α} {k : Nat} {d : α} (h : k < l.length) : l.getD k d ∈ l := by
  simp [List.getD, h]
theorem valid_M {p : List UInt8} {K : Bool → Prop} (hp : p.length ≤ 4000000000) (h : K (validB p)) : M_path_Valid p K := by
  unfold M_path_Valid
  unfold validB at h
  refine ⟨fun h1 => ?_, fun h1 => split_M hp ?_⟩
  · rw [decide_eq_false (by omega : ¬ p.length ≤ 200)] at h; exact h
  rw [decide_eq_true (by omega : p.length ≤ 200), Bool.true_and] at h
  refine ⟨fun i => ∃ k : Nat, i = k ∧ k ≤ (cuts p).length ∧ ((cuts p).take k).all fairB = true, fun i => ((cuts p).length - i.toNat), ⟨0, rfl, by omega, by simp⟩, ?_⟩
  have hcl := cuts_length p
  rintro _ ⟨k, rfl, hk, hall⟩
  refine ⟨fun hlt => ⟨by omega, ?_⟩, fun hge => ?_⟩
  · have hk' : k < (cuts p).length := by omega
    rw [Int.toNat_natCast]
    have hm : (cuts p).getD k [] ∈ cuts p := getD_mem hk'
    have hx := cuts_part hm
    refine fair_M (by omega) ?_
    cases hl : fairB ((cuts p).getD k []) with
    | false =>
      refine ⟨fun _ => ?_, fun h1 => by simp at h1⟩
      have : (cuts p).all fairB = false := by
        rw [List.all_eq_false]
        exact ⟨_, hm, by rw [hl]; simp⟩
      rw [this] at h
      exact h
    | true =>
      refine ⟨fun h1 => by simp at h1, fun _ => ⟨by simp only [In]; omega, ⟨k + 1, by omega, by omega, ?_⟩, by dsimp only; omega⟩⟩
      rw [List.take_succ_eq_append_getElem hk', List.all_append, hall]
      simpa [List.getD, hk'] using hl
  · obtain rfl : k = (cuts p).length := by omega
    rw [List.take_length] at hall
    rw [hall] at h
    exact h
end Go.Proofs.YtlonpmajnglmoaaDoor


 /- Patterns, plainly: one table for bytes and for parts. -/
namespace Go.Proofs.YtlonpmajnglmoaaDoor
open Go Go.RowKit
section
variable (star : Nat → Bool) (eq : Nat → Nat → Bool) (i j : Nat)
end
def bt (p : List UInt8) (i : Nat) : UInt8 := p.getD i 0
def RowIs (d : Nat → Bool) (n k : Nat) (xs : List Bool) : Prop := xs.length = n + 1 ∧ ∀ j, j < k → xs.getD j false = d j
theorem getD_set {xs : List Bool} {a j : Nat} {v : Bool} (h : a < xs.length) : (xs.set a v).getD j false = if j = a then v else xs.getD j false := by
  by_cases e : j = a
  · subst e; simp [List.getD, h]
  · simp [List.getD, List.getElem?_set, Ne.symm e, e]
theorem RowIs.next {d : Nat → Bool} {n k : Nat} {xs : List Bool} {v : Bool} (h : RowIs d n k xs) (hk : k ≤ n) (hv : v = d k) : RowIs d n (k + 1) (xs.set k v) :=
  ⟨by rw [List.length_set]; exact h.1, fun j hj => by
    rw [getD_set (by rw [h.1]; omega)]
    split
    · rename_i e; rw [e]; exact hv
    · exact h.2 j (by omega)⟩
end Go.Proofs.YtlonpmajnglmoaaDoor


 /- Paths, plainly: clean, match. -/
namespace Go.Proofs.YtlonpmajnglmoaaDoor
open Go Go.RowKit
/-- Clean's loop -/
def cl (l : List (List UInt8)) : List (List UInt8) → Option (List (List UInt8))
  | [] => some l
  | x :: r => if decide (x = []) || decide (x = [46]) then cl l r else if decide (x = [46, 46]) && decide (0 < l.length) then cl (l.take (l.length - 1)) r else if fairB x then cl (l ++ [x]) r else none
end Go.Proofs.YtlonpmajnglmoaaDoor


 /- Texts in order, each once: plain, no program. -/
namespace Go.Proofs.YtlonpmajnglmoaaDoor
open Go
abbrev Bs := List UInt8
theorem bs_lt_or (a b : Bs) : a < b ∨ a = b ∨ b < a := by
  by_cases h : a < b
  · exact .inl h
  · by_cases k : b < a
    · exact .inr (.inr k)
    · exact .inr (.inl (List.le_antisymm (List.not_lt.1 k) (List.not_lt.1 h)))
theorem bs_lt_of {a b : Bs} (h : a ≤ b) (hne : a ≠ b) : a < b := by
  rcases bs_lt_or a b with h1 | h1 | h1
  · exact h1
  · exact absurd h1 hne
  · exact absurd h1 (List.not_lt.2 h)
def Strict (l : List Bs) : Prop := l.Pairwise (· < ·)
theorem strict_uniq : ∀ {a b : List Bs}, Strict a → Strict b → (∀ x, x ∈ a ↔ x ∈ b) → a = b
  | [], [], _, _, _ => rfl
  | [], y :: b, _, _, h => by have := (h y).2 (by simp); simp at this
  | x :: a, [], _, _, h => by have := (h x).1 (by simp); simp at this
  | x :: a, y :: b, ha, hb, h => by
    have ha' := List.pairwise_cons.1 ha
    have hb' := List.pairwise_cons.1 hb
    have hxy : x = y := by
      rcases List.mem_cons.1 ((h x).1 (by simp)) with e | hx
      · exact e
      · rcases List.mem_cons.1 ((h y).2 (by simp)) with e | hy
        · exact e.symm
        · exact absurd (ha'.1 y hy) (List.lt_asymm (hb'.1 x hx))
    subst hxy
    rw [strict_uniq ha'.2 hb'.2 (fun z => ?_)]
    constructor
    · intro hz
      rcases List.mem_cons.1 ((h z).1 (by simp [hz])) with e | hz'
      · subst e; exact absurd (ha'.1 z hz) (List.lt_irrefl z)
      · exact hz'
    · intro hz
      rcases List.mem_cons.1 ((h z).2 (by simp [hz])) with e | hz'
      · subst e; exact absurd (hb'.1 z hz) (List.lt_irrefl z)
      · exact hz'
def sortB (l : List Bs) : List Bs := l.mergeSort fun x y => decide (x ≤ y)
theorem sortB_le (l : List Bs) : (sortB l).Pairwise (· ≤ ·) := by
  have h := List.pairwise_mergeSort (le := fun (x y : Bs) => decide (x ≤ y)) (fun a b c h k => by
    simp only [decide_eq_true_eq] at h k ⊢
    exact List.le_trans h k) (fun a b => by
    simp only [Bool.or_eq_true, decide_eq_true_eq]
    exact List.le_total a b) l
  exact h.imp fun h => by simpa using h
theorem sortB_mem (l : List Bs) (x : Bs) : x ∈ sortB l ↔ x ∈ l := (List.mergeSort_perm l _).mem_iff
end Go.Proofs.YtlonpmajnglmoaaDoor


 /- Lines, plainly; sorting, plainly. -/
namespace Go.Proofs.YtlonpmajnglmoaaDoor
open Go Go.RowKit
/-! sorting -/
theorem sorted_uniq : ∀ {a b : List Bs}, a.Pairwise (· ≤ ·) → b.Pairwise (· ≤ ·) → a.Perm b → a = b
  | [], b, _, _, h => h.nil_eq.symm ▸ rfl
  | x :: a, [], _, _, h => absurd h.eq_nil (by simp)
  | x :: a, y :: b, ha, hb, h => by
    have ha' := List.pairwise_cons.1 ha
    have hb' := List.pairwise_cons.1 hb
    have h1 : y ≤ x := by
      rcases List.mem_cons.1 (h.mem_iff.1 (List.mem_cons_self (a := x) (l := a))) with e | e
      · rw [e]; exact List.le_refl _
      · exact hb'.1 x e
    have h2 : x ≤ y := by
      rcases List.mem_cons.1 (h.mem_iff.2 (List.mem_cons_self (a := y) (l := b))) with e | e
      · rw [e]; exact List.le_refl _
      · exact ha'.1 y e
    obtain rfl : x = y := List.le_antisymm h2 h1
    rw [sorted_uniq ha'.2 hb'.2 h.cons_inv]
theorem sortB_perm (l : List Bs) : (sortB l).Perm l := List.mergeSort_perm l _
theorem sortB_of {a l : List Bs} (h : a.Pairwise (· ≤ ·)) (k : a.Perm l) : a = sortB l := sorted_uniq h (sortB_le l) (k.trans (sortB_perm l).symm)
theorem sortB_congr {a b : List Bs} (h : a.Perm b) : sortB a = sortB b := sortB_of (sortB_le a) ((sortB_perm a).trans h)
end Go.Proofs.YtlonpmajnglmoaaDoor


 /- smithysee.Is, plainly. -/
namespace Go.Proofs.YtlonpmajnglmoaaDoor
open Go Go.RowKit
end Go.Proofs.YtlonpmajnglmoaaDoor


 /- A disk, plainly: what its calls come to. -/
namespace Go.Proofs.YtlonpmajnglmoaaDoor
open Go Go.RowKit
abbrev DF := List (List UInt8 × Fil)
def fz : Fil := ([], false, [], false, [])
/-- a file's record, or the empty one -/
def fil (fs : DF) (p : List UInt8) : Fil := (mget fs p).getD fz
theorem fil_put (fs : DF) (p q : List UInt8) (x : Fil) : fil (mput fs p x) q = if p = q then x else fil fs q := by
  unfold fil
  rw [mget_mput]
  split <;> rfl
theorem mput_mput {κ ν : Type} [DecidableEq κ] (k : κ) (v v' : ν) : ∀ m : List (κ × ν), mput (mput m k v) k v' = mput m k v'
  | [] => by simp [mput]
  | p :: m => by
    by_cases h : p.1 = k
    · simp [mput, h]
    · simp [mput, h, mput_mput k v v' m]
theorem eraseIdx_perm {α : Type} : ∀ (l : List α) (i : Nat) (h : i < l.length), l.Perm (l[i] :: l.eraseIdx i)
  | [], _, h => by simp at h
  | x :: l, 0, _ => List.Perm.refl _
  | x :: l, i + 1, h => ((eraseIdx_perm l i (by simpa using h)).cons x).trans (List.Perm.swap _ _ _)
def thereB (fs : DF) (p : List UInt8) : Bool := (fil fs p).2.1
theorem there_eq (fs : DF) (p : List UInt8) : ((mget fs p).isSome && ((mget fs p).getD fz).2.1) = thereB fs p := by
  unfold thereB fil
  cases mget fs p <;> rfl
theorem there_some {fs : DF} {p : List UInt8} (h : thereB fs p = true) : (mget fs p).isSome = true := by
  unfold thereB fil at h
  cases e : mget fs p with
  | none => rw [e] at h; cases h
  | some x => rfl
/-- a call is counted: the error, and what the counters are then -/
def dcall (ops left : Int) (down : Bool) : Er × Int × Int × Bool :=
  if down then (.e 15, ops, left, true) else if 0 < left then (if left = 1 then (.e 15, ops + 1, 0, true) else (.ok, ops + 1, left - 1, false)) else (.ok, ops + 1, left, false)
theorem call_M {fs : DF} {ops left : Int} {down : Bool} {K : Er → DF → Int → Int → Bool → Prop} (h0 : 0 ≤ ops) (h1 : ops ≤ 1000000000) (hl : left ≤ 1000000000) (h : K (dcall ops left down).1 fs (dcall ops left down).2.1 (dcall ops left down).2.2.1 (dcall ops left down).2.2.2) : M_pdisk_Disk_call fs ops left down K := by
  refine ⟨fun hd => ?_, fun hd => ⟨by simp only [In]; omega, fun d => d = (if 0 < left then left - 1 else left) ∧ ¬ (0 < left ∧ left = 1), ⟨fun hp => ⟨by simp only [In]; omega, fun h1' => ?_, fun hne => ?_⟩, fun hp => ?_⟩, fun d2 ⟨e, hn⟩ => ?_⟩⟩
  · subst hd; simpa [dcall] using h
  · have e : left = 1 := by omega
    subst hd; subst e; simpa [dcall] using h
  · exact ⟨by rw [if_pos hp], by omega⟩
  · exact ⟨by rw [if_neg hp], by omega⟩
  · subst hd
    subst e
    unfold dcall at h
    by_cases hp : 0 < left
    · have hne : left ≠ 1 := by omega
      simpa [hp, hne] using h
    · simpa [hp] using h
theorem dthere_M {fs : DF} {ops left : Int} {down : Bool} {p : List UInt8} {K : Bool → Prop} (hp : p.length ≤ maxLen) (h : K (thereB fs p)) : M_pdisk_Disk_there fs ops left down p K := by
  refine ⟨hp, fun _ => hp, fun h => h, ?_⟩
  rw [show (([], false, [], false, []) : Fil) = fz from rfl, there_eq]
  exact h
theorem known_M {fs : DF} {ops left : Int} {down : Bool} {p : List UInt8} {K : DF → Int → Int → Bool → Prop} (hp : p.length ≤ maxLen) (hf : fs.length < maxLen) (h : ∀ fs', (∀ x, mput fs' p x = mput fs p x) → (mget fs' p).isSome = true → fil fs' p = fil fs p → K fs' ops left down) : M_pdisk_Disk_known fs ops left down p K := by
  refine ⟨fun f => (∀ x, mput f p x = mput fs p x) ∧ (mget f p).isSome = true ∧ fil f p = fil fs p, ⟨hp, fun hn => ⟨⟨hp, hf⟩, fun x => mput_mput _ _ _ _, ?_, ?_⟩, fun hn => ⟨fun _ => rfl, isSome_of hn, rfl⟩⟩, fun d ⟨h1, h2, h3⟩ => ⟨hp, h d h1 h2 h3⟩⟩
  · rw [mget_same]; rfl
  · rw [fil_put, if_pos rfl]
    unfold fil
    rw [Option.isNone_iff_eq_none.1 hn]; rfl
/-- the paths of the files that are there -/
def pathsP (fs : DF) : List (List UInt8) := sortB ((fs.map (·.1)).filter fun k => thereB fs k)
theorem paths_M {fs : DF} {ops left : Int} {down : Bool} {K : List (List UInt8) → Prop} (hf : fs.length ≤ 1000000) (h : K (pathsP fs)) : M_pdisk_Disk_paths fs ops left down K := by
  refine ⟨fun l todo => (l ++ todo.filter fun k => thereB fs k).Perm ((fs.map (·.1)).filter fun k => thereB fs k) ∧ l.length + todo.length ≤ fs.length ∧ ∀ k ∈ todo, k ∈ fs.map (·.1), fun _ todo => todo.length, ⟨by simp, by simp, fun k hk => hk⟩, fun l todo ⟨a0, a1, a2⟩ => ⟨fun he => ?_, fun ix key hq => ?_⟩⟩
  · subst he
    refine ⟨by simp only [List.length_nil] at a1; omega, ?_⟩
    have := sortB_congr (by simpa using a0 : l.Perm _)
    unfold sortB at this
    rw [this]
    exact h
  · obtain ⟨hi, rfl⟩ := List.getElem?_eq_some_iff.1 hq
    have hmem := a2 _ (List.getElem_mem hi)
    have hp : todo.Perm (todo[ix] :: todo.eraseIdx ix) := eraseIdx_perm todo ix hi
    have hlen : (todo.eraseIdx ix).length + 1 = todo.length := by rw [List.length_eraseIdx_of_lt hi]; omega
    have hsome : (mget fs todo[ix]).isSome = true := by
      obtain ⟨p, hp, e⟩ := List.mem_map.1 hmem
      cases hm : mget fs todo[ix] with
      | some x => rfl
      | none => exact absurd e (mget_none.1 hm p hp)
    refine ⟨hsome, fun ht => ⟨by simp; omega, ⟨?_, by simp; omega, fun k hk => a2 k (List.mem_of_mem_eraseIdx hk)⟩, by (try dsimp only); omega⟩, fun ht => ⟨⟨?_, by omega, fun k hk => a2 k (List.mem_of_mem_eraseIdx hk)⟩, by (try dsimp only); omega⟩⟩
    · have ht' : thereB fs todo[ix] = true := ht
      refine List.Perm.trans ?_ a0
      rw [List.append_assoc]
      refine List.Perm.append_left l ?_
      refine List.Perm.trans ?_ (hp.filter _).symm
      rw [List.filter_cons, if_pos ht']
      rfl
    · have ht' : thereB fs todo[ix] = false := ht
      refine List.Perm.trans (List.Perm.append_left l ?_) a0
      refine List.Perm.trans ?_ (hp.filter _).symm
      rw [List.filter_cons, if_neg (by rw [ht']; simp)]
theorem count_M {fs : DF} {ops left : Int} {down : Bool} {K : Int → Prop} (hf : fs.length ≤ 1000000) (h : K ((pathsP fs).length : Int)) : M_pdisk_Disk_count fs ops left down K := paths_M hf h
theorem pathsP_len (fs : DF) : (pathsP fs).length ≤ fs.length := by
  unfold pathsP sortB
  rw [List.length_mergeSort]
  exact Nat.le_trans (List.length_filter_le _ _) (by simp)
theorem dread_M {fs : DF} {ops left : Int} {down : Bool} {p : List UInt8} {K : List UInt8 → Bool → Er → DF → Int → Int → Bool → Prop} (hp : p.length ≤ maxLen) (h0 : 0 ≤ ops) (h1 : ops ≤ 1000000000) (hl : left ≤ 1000000000)
    (h : ∀ o l d, (∀ e, dcall ops left down = (e, o, l, d) → e ≠ .ok → K [] false e fs o l d) ∧ (dcall ops left down = (.ok, o, l, d) → thereB fs p = true → K (fil fs p).1 true .ok fs o l d) ∧ (dcall ops left down = (.ok, o, l, d) → thereB fs p = false → K [] false .ok fs o l d)) : M_pdisk_Disk_Read fs ops left down p K := by
  refine call_M h0 h1 hl ?_
  rcases hc : dcall ops left down with ⟨e, o, l, d⟩
  obtain ⟨k1, k2, k3⟩ := h o l d
  by_cases he : e = .ok
  · subst he
    refine ⟨fun b => b = !thereB fs p, ⟨fun hn => by simp at hn, fun _ => dthere_M hp rfl⟩, fun q hq => ⟨fun ht => k3 hc (by rw [hq] at ht; simpa using ht), fun hf => ?_⟩⟩
    have ht : thereB fs p = true := by rw [hq] at hf; simpa using hf
    exact ⟨hp, there_some ht, k2 hc ht⟩
  · refine ⟨fun b => b = true, ⟨fun _ => rfl, fun hn => absurd (by simpa using hn) he⟩, fun q hq => ⟨fun _ => k1 e hc he, fun hf => (by rw [hq] at hf; cases hf)⟩⟩
/-- what laying a text comes to, when the power is there -/
def dlay (fs : DF) (p text : List UInt8) (kind : Int) : Er × DF :=
  let t := if kind = 1 ∧ thereB fs p = true then (fil fs p).1 ++ text else text
  if validB p = false ∨ 65536 < t.length then (.e 11, fs)
  else if thereB fs p = false ∧ 2000 ≤ (pathsP fs).length then (.e 9, fs)
  else (.ok, mput fs p (t, true, (fil fs p).2.2.1, (fil fs p).2.2.2.1, (fil fs p).2.2.2.2 ++ [(kind, text)]))
theorem put_M {fs : DF} {ops left : Int} {down : Bool} {p text : List UInt8} {kind : Int} {K : Er → DF → Int → Int → Bool → Prop} (hp : p.length ≤ 1000000) (h0 : 0 ≤ ops) (h1 : ops ≤ 1000000000) (hl : left ≤ 1000000000) (hf : fs.length ≤ 1000000) (ht : text.length ≤ 1000000) (hx : (fil fs p).1.length ≤ 1000000) (hs : (fil fs p).2.2.2.2.length ≤ 1000000)
    (h : ∀ o l d, (∀ e, dcall ops left down = (e, o, l, d) → e ≠ .ok → K e fs o l d) ∧ (dcall ops left down = (.ok, o, l, d) → K (dlay fs p text kind).1 (dlay fs p text kind).2 o l d)) : M_pdisk_Disk_put fs ops left down p text kind text K := by
  refine call_M h0 h1 hl ?_
  rcases hc : dcall ops left down with ⟨e, o, l, d⟩
  obtain ⟨k1, k2⟩ := h o l d
  refine ⟨fun hne => k1 e hc hne, fun he => ?_⟩
  dsimp only at he
  subst he
  have k2 := k2 hc
  have hpm : p.length ≤ maxLen := by unfold maxLen; omega
  refine ⟨fun t => t = (if kind = 1 ∧ thereB fs p = true then (fil fs p).1 ++ text else text), ⟨fun b => b = (decide (kind = 1) && thereB fs p), ⟨fun hk => dthere_M hpm (by rw [hk]; rfl), fun hk => by rw [hk]; rfl⟩, fun q hq => ⟨fun hq1 => ?_, fun hq0 => ?_⟩⟩, fun t hte => ?_⟩
  · rw [hq, Bool.and_eq_true, decide_eq_true_eq] at hq1
    refine ⟨hpm, there_some hq1.2, ?_, ?_⟩
    · show (fil fs p).1.length + _ ≤ _; omega
    · rw [if_pos hq1]; rfl
  · rw [hq] at hq0
    have : ¬ (kind = 1 ∧ thereB fs p = true) := fun ⟨a, b⟩ => by rw [b, decide_eq_true a] at hq0; cases hq0
    rw [if_neg this]
  · have htl : t.length ≤ 2000000 := by
      rw [hte]; split
      · rw [List.length_append]; omega
      · omega
    unfold dlay at k2
    simp only [← hte] at k2
    refine valid_M (by omega) ⟨fun hb => ?_, fun hb => dthere_M hpm ?_⟩
    · rw [Bool.or_eq_true, Bool.not_eq_true', decide_eq_true_eq] at hb
      have : validB p = false ∨ 65536 < t.length := hb.imp id fun h => by omega
      rw [if_pos this] at k2
      exact k2
    · rw [Bool.or_eq_false_iff, Bool.not_eq_false', decide_eq_false_iff_not] at hb
      have : ¬ (validB p = false ∨ 65536 < t.length) := fun h => h.elim (fun h => by rw [hb.1] at h; cases h) (fun h => by omega)
      rw [if_neg this] at k2
      refine ⟨fun b => b = (!thereB fs p && decide (2000 ≤ (pathsP fs).length)), ⟨fun hn => count_M hf ?_, fun hn => by rw [hn]; rfl⟩, fun q hq => ⟨fun hq1 => ?_, fun hq0 => ?_⟩⟩
      · rw [hn, Bool.true_and]
        apply Bool.eq_iff_iff.2
        simp only [decide_eq_true_eq]; omega
      · rw [hq, Bool.and_eq_true, Bool.not_eq_true', decide_eq_true_eq] at hq1
        rw [if_pos hq1] at k2
        exact k2
      · rw [hq] at hq0
        have : ¬ (thereB fs p = false ∧ 2000 ≤ (pathsP fs).length) := fun ⟨a, b⟩ => by rw [a, decide_eq_true b] at hq0; cases hq0
        rw [if_neg this] at k2
        refine known_M hpm (by unfold maxLen; omega) fun fs' g1 g2 g3 => ⟨g2, ?_, ?_⟩
        · have : ((mget fs' p).getD ([], false, [], false, [])).2.2.2.2 = (fil fs p).2.2.2.2 := by rw [← g3]; rfl
          rw [this]; simp; omega
        · have e : (mget fs' p).getD ([], false, [], false, []) = fil fs p := g3
          rw [e, g1]
          exact k2
def dsync (fs : DF) (p : List UInt8) : Er × DF :=
  if validB p = false then (.e 11, fs) else (.ok, if (mget fs p).isSome = true then mput fs p ((fil fs p).1, (fil fs p).2.1, (fil fs p).1, (fil fs p).2.1, []) else fs)
theorem sync_M {fs : DF} {ops left : Int} {down : Bool} {p : List UInt8} {K : Er → DF → Int → Int → Bool → Prop} (hp : p.length ≤ 1000000) (h0 : 0 ≤ ops) (h1 : ops ≤ 1000000000) (hl : left ≤ 1000000000)
    (h : ∀ o l d, (∀ e, dcall ops left down = (e, o, l, d) → e ≠ .ok → K e fs o l d) ∧ (dcall ops left down = (.ok, o, l, d) → K (dsync fs p).1 (dsync fs p).2 o l d)) : M_pdisk_Disk_Sync fs ops left down p K := by
  refine call_M h0 h1 hl ?_
  rcases hc : dcall ops left down with ⟨e, o, l, d⟩
  obtain ⟨k1, k2⟩ := h o l d
  refine ⟨fun hne => k1 e hc hne, fun he => ?_⟩
  dsimp only at he
  subst he
  have k2 := k2 hc
  have hpm : p.length ≤ maxLen := by unfold maxLen; omega
  unfold dsync at k2
  refine valid_M (by omega) ⟨fun hb => ?_, fun hb => ?_⟩
  · have : validB p = false := by simpa using hb
    rw [if_pos this] at k2
    exact k2
  · have : ¬ validB p = false := by simpa using hb
    rw [if_neg this] at k2
    exact ⟨fun f => f = (if (mget fs p).isSome = true then mput fs p ((fil fs p).1, (fil fs p).2.1, (fil fs p).1, (fil fs p).2.1, []) else fs), ⟨hpm, fun ht => fun _ => by rw [if_pos ht]; rfl, fun ht => by rw [if_neg (by rw [ht]; simp)]⟩, fun f hf => by rw [hf]; exact k2⟩
theorem pathsP_mem {fs : DF} {k : List UInt8} : k ∈ pathsP fs ↔ thereB fs k = true := by
  unfold pathsP
  rw [sortB_mem, List.mem_filter, List.mem_map]
  refine ⟨fun h => h.2, fun h => ⟨?_, h⟩⟩
  have := there_some h
  obtain ⟨x, hx⟩ := Option.isSome_iff_exists.1 this
  have : ∀ (m : DF), mget m k = some x → (k, x) ∈ m := fun m => by
    induction m with
    | nil => intro h; simp [mget] at h
    | cons p m ih =>
      intro h
      unfold mget at h
      split at h
      · rename_i e; simp only [Option.some.injEq] at h; rw [← h, ← e]; simp
      · exact List.mem_cons_of_mem _ (ih h)
  exact ⟨_, this fs hx, rfl⟩
end Go.Proofs.YtlonpmajnglmoaaDoor


 /- A disk, plainly: the fall of the power, what rises behind it. -/
namespace Go.Proofs.YtlonpmajnglmoaaDoor
open Go Go.RowKit
section
variable {fs : DF} {ops : Int} {p text : List UInt8} {kind : Int}
theorem put0_M {K : Er → DF → Int → Int → Bool → Prop} (hp : p.length ≤ 1000000) (h0 : 0 ≤ ops) (h1 : ops ≤ 1000000000) (hf : fs.length ≤ 1000000) (ht : text.length ≤ 1000000) (hx : (fil fs p).1.length ≤ 1000000) (hs : (fil fs p).2.2.2.2.length ≤ 1000000) (h : K (dlay fs p text kind).1 (dlay fs p text kind).2 (ops + 1) 0 false) : M_pdisk_Disk_put fs ops 0 false p text kind text K :=
  put_M hp h0 h1 (by omega) hf ht hx hs fun o l d => ⟨fun e he hne => by
    simp only [dcall, Bool.false_eq_true, if_false, Int.lt_irrefl, Prod.mk.injEq] at he
    exact absurd he.1.symm hne, fun he => by
    simp only [dcall, Bool.false_eq_true, if_false, Int.lt_irrefl, Prod.mk.injEq, true_and] at he
    obtain ⟨rfl, rfl, rfl⟩ := he
    exact h⟩
theorem sync0_M {K : Er → DF → Int → Int → Bool → Prop} (hp : p.length ≤ 1000000) (h0 : 0 ≤ ops) (h1 : ops ≤ 1000000000) (h : K (dsync fs p).1 (dsync fs p).2 (ops + 1) 0 false) : M_pdisk_Disk_Sync fs ops 0 false p K :=
  sync_M hp h0 h1 (by omega) fun o l d => ⟨fun e he hne => by
    simp only [dcall, Bool.false_eq_true, if_false, Int.lt_irrefl, Prod.mk.injEq] at he
    exact absurd he.1.symm hne, fun he => by
    simp only [dcall, Bool.false_eq_true, if_false, Int.lt_irrefl, Prod.mk.injEq, true_and] at he
    obtain ⟨rfl, rfl, rfl⟩ := he
    exact h⟩
/-- what a read tells, when the power is there -/
def dtext (fs : DF) (p : List UInt8) : List UInt8 := if thereB fs p = true then (fil fs p).1 else []
theorem dreadC_M {left : Int} {down : Bool} {K : List UInt8 → Bool → Er → DF → Int → Int → Bool → Prop} (hp : p.length ≤ maxLen) (h0 : 0 ≤ ops) (h1 : ops ≤ 1000000000) (hl : left ≤ 1000000000)
    (h : K (if (dcall ops left down).1 = .ok then dtext fs p else []) (decide ((dcall ops left down).1 = .ok) && thereB fs p) (dcall ops left down).1 fs (dcall ops left down).2.1 (dcall ops left down).2.2.1 (dcall ops left down).2.2.2) : M_pdisk_Disk_Read fs ops left down p K := by
  refine dread_M hp h0 h1 hl fun o l d => ⟨fun e he hne => ?_, fun he ht => ?_, fun he ht => ?_⟩
  · rw [he] at h
    simpa [hne] using h
  · rw [he] at h
    simpa [dtext, ht] using h
  · rw [he] at h
    simpa [dtext, ht] using h
theorem dread0_M {K : List UInt8 → Bool → Er → DF → Int → Int → Bool → Prop} (hp : p.length ≤ maxLen) (h0 : 0 ≤ ops) (h1 : ops ≤ 1000000000) (h : K (dtext fs p) (thereB fs p) .ok fs (ops + 1) 0 false) : M_pdisk_Disk_Read fs ops 0 false p K :=
  dreadC_M hp h0 h1 (by omega) (by simpa [dcall] using h)
theorem dlay_ok (hv : validB p = true) (hf : fs.length < 2000) (ht : (if kind = 1 ∧ thereB fs p = true then (fil fs p).1 ++ text else text).length ≤ 65536) :
    dlay fs p text kind = (.ok, mput fs p (if kind = 1 ∧ thereB fs p = true then (fil fs p).1 ++ text else text, true, (fil fs p).2.2.1, (fil fs p).2.2.2.1, (fil fs p).2.2.2.2 ++ [(kind, text)])) := by
  have := pathsP_len fs
  unfold dlay
  rw [if_neg (fun h => h.elim (fun h => by rw [hv] at h; cases h) (fun h => by omega)), if_neg (by rintro ⟨_, h⟩; omega)]
end
end Go.Proofs.YtlonpmajnglmoaaDoor


 /- Printed by a program (wip/vg): what the functions mean, plainly, and their walks. -/
namespace Go.Proofs.YtlonpmajnglmoaaDoor
open Go Go.RowKit
attribute [local irreducible] WL WC WX WQ WK WJ Yld Eff Ef0 Fn
end Go.Proofs.YtlonpmajnglmoaaDoor

 /- smithylaw1.first; Dir, Base, Under; PathDirs. -/
namespace Go.Proofs.YtlonpmajnglmoaaDoor
open Go Go.RowKit
end Go.Proofs.YtlonpmajnglmoaaDoor


 /- Patterns at work: PathStars. -/
namespace Go.Proofs.YtlonpmajnglmoaaDoor
open Go Go.RowKit
end Go.Proofs.YtlonpmajnglmoaaDoor


 /- Clean twice: PathAgain. -/
namespace Go.Proofs.YtlonpmajnglmoaaDoor
open Go Go.RowKit
end Go.Proofs.YtlonpmajnglmoaaDoor


 /- The chapter's own words for paths (smithyref1), and PathSays. -/
namespace Go.Proofs.YtlonpmajnglmoaaDoor
open Go Go.RowKit
end Go.Proofs.YtlonpmajnglmoaaDoor


 /- Globs: the plain side. -/
namespace Go.Proofs.YtlonpmajnglmoaaDoor
open Go Go.RowKit
end Go.Proofs.YtlonpmajnglmoaaDoor


 /- DiskArms and DiskFiles, plainly. -/
namespace Go.Proofs.YtlonpmajnglmoaaDoor
open Go Go.RowKit
theorem numR_M {n below : Int} {K : Int → Prop} (hn : In .i64 n) (hb : 0 < below) (hb2 : below ≤ 100000) (h : ∀ m, 0 ≤ m → m < below → K m) : M_smithyworld_Number n below K := by
  unfold M_smithyworld_Number
  have h1 := Int.tmod_lt_of_pos n hb
  have h2 := Int.lt_tmod_of_pos n hb
  simp only [In] at hn
  refine ⟨by omega, by simp only [In]; omega, by omega, ?_⟩
  have h3 : 0 ≤ n.tmod below + below := by omega
  rw [Int.tmod_eq_emod_of_nonneg h3]
  exact h _ (Int.emod_nonneg _ (by omega)) (Int.emod_lt_of_pos _ hb)
theorem new0_M {K0 : Er → Prop} {K : DF → Int → Int → Bool → Er → Prop} (h : K [] 0 0 false .ok) : M_disk_New [] K0 K := by
  intro _
  refine ⟨fun i fs => i = 0 ∧ fs = [], fun _ _ => 0, ⟨rfl, rfl⟩, fun i fs ⟨a0, a1⟩ => ⟨fun hlt => ?_, fun _ => ⟨fun hb => ?_, fun _ => by rw [a1]; exact h⟩⟩⟩
  · subst a0; simp at hlt
  · simp at hb
end Go.Proofs.YtlonpmajnglmoaaDoor


 /- DiskFiles, plainly. -/
namespace Go.Proofs.YtlonpmajnglmoaaDoor
open Go Go.RowKit
def nms : List (List UInt8) := [[97], [98, 47, 99], [100]]
def nm (k : Nat) : List UInt8 := nms.getD k []
theorem nm_inj {j k : Nat} (hj : j < 3) (hk : k < 3) (h : nm j = nm k) : j = k := by
  match j, k, hj, hk with
  | 0, 0, _, _ => rfl
  | 1, 1, _, _ => rfl
  | 2, 2, _, _ => rfl
  | 0, 1, _, _ => exact absurd h (by decide)
  | 0, 2, _, _ => exact absurd h (by decide)
  | 1, 0, _, _ => exact absurd h (by decide)
  | 1, 2, _, _ => exact absurd h (by decide)
  | 2, 0, _, _ => exact absurd h (by decide)
  | 2, 1, _, _ => exact absurd h (by decide)
structure DInv (fs : DF) (hv : List Bool) (tx : List (List UInt8)) (n : Nat) : Prop where
  uq : Uq fs
  len : fs.length ≤ n
  keys : ∀ p ∈ fs, ∃ k, k < 3 ∧ p.1 = nm k
  hl : hv.length = 3
  tl : tx.length = 3
  there : ∀ k, k < 3 → thereB fs (nm k) = hv.getD k false
  text : ∀ k, k < 3 → (fil fs (nm k)).1 = tx.getD k []
  none : ∀ k, k < 3 → hv.getD k false = false → tx.getD k [] = []
  size : ∀ k, k < 3 → (tx.getD k []).length ≤ 100 * n
  since : ∀ k, k < 3 → (fil fs (nm k)).2.2.2.2.length ≤ n
theorem getD_setF {α : Type} {l : List α} {i j : Nat} {x d : α} (hi : i < l.length) : (l.set i x).getD j d = if i = j then x else l.getD j d := by
  simp only [List.getD, List.getElem?_set]
  by_cases e : i = j
  · subst e; simp [hi]
  · simp [e]
theorem DInv.put {fs : DF} {hv : List Bool} {tx : List (List UInt8)} {n k : Nat} (h : DInv fs hv tx n) (hk : k < 3) {t s : List UInt8} {b w : Bool} {l : List (Int × List UInt8)} (ht : t.length ≤ 100 * (n + 1)) (hb : b = false → t = []) (hll : l.length ≤ n + 1) : DInv (mput fs (nm k) (t, b, s, w, l)) (hv.set k b) (tx.set k t) (n + 1) := by
  have hk1 : k < hv.length := by rw [h.hl]; exact hk
  have hk2 : k < tx.length := by rw [h.tl]; exact hk
  have hne : ∀ {j}, j < 3 → (nm k = nm j ↔ k = j) := fun hj => ⟨nm_inj hk hj, fun e => by rw [e]⟩
  refine ⟨h.uq.put _ _, ?_, ?_, by rw [List.length_set, h.hl], by rw [List.length_set, h.tl], ?_, ?_, ?_, ?_, ?_⟩
  · rw [mput_len]; have := h.len; split <;> omega
  · intro p hp
    rcases mput_mem hp with rfl | hp
    · exact ⟨k, hk, rfl⟩
    · exact h.keys p hp
  · intro j hj
    rw [getD_setF hk1]
    unfold thereB
    rw [fil_put]
    by_cases e : k = j
    · subst e; rw [if_pos rfl, if_pos rfl]
    · rw [if_neg (fun e2 => e ((hne hj).1 e2)), if_neg e]; exact h.there j hj
  · intro j hj
    rw [getD_setF hk2, fil_put]
    by_cases e : k = j
    · subst e; rw [if_pos rfl, if_pos rfl]
    · rw [if_neg (fun e2 => e ((hne hj).1 e2)), if_neg e]; exact h.text j hj
  · intro j hj
    rw [getD_setF hk1, getD_setF hk2]
    by_cases e : k = j
    · rw [if_pos e, if_pos e]; exact hb
    · rw [if_neg e, if_neg e]; exact h.none j hj
  · intro j hj
    rw [getD_setF hk2]
    by_cases e : k = j
    · rw [if_pos e]; exact ht
    · rw [if_neg e]; have := h.size j hj; omega
  · intro j hj
    rw [fil_put]
    by_cases e : k = j
    · subst e; rw [if_pos rfl]; exact hll
    · rw [if_neg (fun e2 => e ((hne hj).1 e2))]; have := h.since j hj; omega
theorem DInv.mono {fs : DF} {hv : List Bool} {tx : List (List UInt8)} {n : Nat} (h : DInv fs hv tx n) : DInv fs hv tx (n + 1) :=
  ⟨h.uq, Nat.le_succ_of_le h.len, h.keys, h.hl, h.tl, h.there, h.text, h.none, fun k hk => by have := h.size k hk; omega, fun k hk => Nat.le_succ_of_le (h.since k hk)⟩
theorem strict_of {l : List Bs} (h : l.Pairwise (· ≤ ·)) (hn : l.Nodup) : Strict l := by
  rw [List.nodup_iff_pairwise_ne] at hn
  exact (List.Pairwise.and h hn).imp fun ⟨a, b⟩ => bs_lt_of a b
theorem pathsP_strict {fs : DF} (h : Uq fs) : Strict (pathsP fs) := by
  refine strict_of (sortB_le _) ?_
  exact (sortB_perm _).nodup_iff.2 (List.Nodup.sublist List.filter_sublist h)
def wantP (hv : List Bool) (k : Nat) : List (List UInt8) := ((List.range k).filter fun j => hv.getD j false).map nm
theorem wantP_strict (hv : List Bool) : Strict (wantP hv 3) := by
  unfold wantP Strict
  rw [List.pairwise_map]
  refine List.Pairwise.sublist List.filter_sublist ?_
  decide
theorem DInv.want {fs : DF} {hv : List Bool} {tx : List (List UInt8)} {n : Nat} (h : DInv fs hv tx n) : pathsP fs = wantP hv 3 := by
  refine strict_uniq (pathsP_strict h.uq) (wantP_strict hv) fun q => ?_
  rw [pathsP_mem]
  unfold wantP
  rw [List.mem_map]
  constructor
  · intro ht
    have hs := there_some ht
    obtain ⟨x, hx⟩ := Option.isSome_iff_exists.1 hs
    obtain ⟨k, hk, e⟩ := h.keys _ ((mget_mem h.uq).1 hx)
    dsimp only at e
    subst e
    exact ⟨k, List.mem_filter.2 ⟨List.mem_range.2 hk, by rw [← h.there k hk]; exact ht⟩, rfl⟩
  · rintro ⟨k, hk, rfl⟩
    obtain ⟨h1, h2⟩ := List.mem_filter.1 hk
    rw [h.there k (List.mem_range.1 h1)]
    exact h2
end Go.Proofs.YtlonpmajnglmoaaDoor


 /- A cache, plainly: its journal. -/
namespace Go.Proofs.YtlonpmajnglmoaaDoor
open Go Go.RowKit
abbrev Ent := List UInt8 × List UInt8
/-- an entry's line -/
def recP (e : Ent) : List UInt8 := hexS e.1 ++ [32] ++ hexS e.2 ++ [32] ++ hexS (manyS [hexS e.1, hexS e.2]) ++ [10]
def Ok32 (e : Ent) : Prop := e.1.length = 32 ∧ e.2.length = 32
theorem hex64 {l : List UInt8} (h : l.length = 32) : (hexS l).length = 64 := by rw [hexS_len, h]
theorem recP_len {e : Ent} (h : Ok32 e) : (recP e).length = 195 := by
  unfold recP
  simp only [List.length_append, List.length_cons, List.length_nil, hex64 h.1, hex64 h.2, hex64 (manyS_len _)]
theorem record_M {k o : List UInt8} {K : List UInt8 → Prop} (h : Ok32 (k, o)) (hK : K (recP (k, o))) : M_cache_Record k o K := by
  have h1 := hex64 h.1
  have h2 := hex64 h.2
  dsimp only at h1 h2
  refine text_M h.1 (text_M h.2 ⟨by simp only [List.length_cons, List.length_nil]; omega, by simp only [List.length_append, List.length_cons, List.length_nil]; omega, by simp only [List.length_append, List.length_cons, List.length_nil]; omega, ⟨by simp, fun x hx => ?_, text_M (manyS_len _) ⟨?_, ?_, hK⟩⟩⟩)
  · simp only [List.mem_cons, List.not_mem_nil, or_false] at hx
    rcases hx with rfl | rfl <;> omega
  · have h3 := hex64 (manyS_len [hexS k, hexS o])
    simp only [List.length_append, List.length_cons, List.length_nil]; omega
  · have h3 := hex64 (manyS_len [hexS k, hexS o])
    simp only [List.length_append, List.length_cons, List.length_nil]; omega
def oneP (s : List UInt8) : Option Ent :=
  match parS (s.take 64), parS ((s.drop 65).take 64) with
  | some k, some o => if recP (k, o) = s then some (k, o) else none
  | _, _ => none
theorem oneP_rec {s : List UInt8} {e : Ent} (h : oneP s = some e) : recP e = s ∧ Ok32 e := by
  unfold oneP at h
  split at h
  · rename_i k o hk ho
    split at h
    · rename_i hr
      simp only [Option.some.injEq] at h
      subst h
      exact ⟨hr, parS_len hk, parS_len ho⟩
    · cases h
  · cases h
theorem oneP_of {e : Ent} (h : Ok32 e) : oneP (recP e) = some e := by
  have h1 := hex64 h.1
  have h2 := hex64 h.2
  have e1 : (recP e).take 64 = hexS e.1 := by
    unfold recP
    simp only [List.append_assoc]
    exact List.take_left' h1
  have e2 : ((recP e).drop 65).take 64 = hexS e.2 := by
    unfold recP
    have : hexS e.1 ++ [32] ++ hexS e.2 ++ [32] ++ hexS (manyS [hexS e.1, hexS e.2]) ++ [10] = (hexS e.1 ++ [32]) ++ (hexS e.2 ++ ([32] ++ hexS (manyS [hexS e.1, hexS e.2]) ++ [10])) := by simp only [List.append_assoc]
    rw [this, List.drop_left' (by simp [h1]), List.take_left' h2]
  unfold oneP
  rw [e1, e2, parS_hex _ h.1, parS_hex _ h.2]
  simp
theorem one_M {s : List UInt8} {K : List UInt8 → List UInt8 → Bool → Prop} (hs : 129 ≤ s.length) (h1 : ∀ k o, oneP s = some (k, o) → K k o true) (h0 : oneP s = none → ∀ k o, K k o false) : M_cache_one s K := by
  have hcut : (s.drop 65).take (129 - 65) = (s.drop 65).take 64 := rfl
  refine ⟨⟨by omega, by omega⟩, ?_⟩
  have key : ∀ k e, (parS (s.take 64) = some k ∧ e = Er.ok ∨ parS (s.take 64) = none ∧ e = .e 12) → (0 ≤ (65 : Int) ∧ (65 : Int) ≤ (129 : Int) ∧ (129 : Int) ≤ s.length) ∧ M_sha_Parse ((s.drop 65).take (129 - 65)) (fun (t180 : List UInt8) (t181 : Er) =>
      ∃ J1 : Bool → Prop, (((((decide (e = Er.ok)) && (decide (t181 = Er.ok))) = true → M_cache_Record k t180 (fun (t33 : List UInt8) => J1 (decide (t33 = s)))) ∧ (((decide (e = Er.ok)) && (decide (t181 = Er.ok))) = false → J1 false))) ∧ (∀ q2 : Bool, J1 q2 → K k t180 q2)) := by
    intro k e hk
    refine ⟨⟨by omega, by omega, by omega⟩, fun o ho => ?_, fun ho => ?_⟩
    · rcases hk with ⟨hk, rfl⟩ | ⟨hk, rfl⟩
      · refine ⟨fun b => b = decide (recP (k, o) = s), ⟨fun _ => record_M ⟨parS_len hk, parS_len ho⟩ rfl, fun h => by simp at h⟩, fun q hq => ?_⟩
        rw [hq]
        rw [hcut] at ho
        by_cases hr : recP (k, o) = s
        · rw [decide_eq_true hr]
          refine h1 k o ?_
          unfold oneP
          rw [hk, ho]
          simp [hr]
        · rw [decide_eq_false hr]
          refine h0 ?_ k o
          unfold oneP
          rw [hk, ho]
          simp [hr]
      · refine ⟨fun b => b = false, ⟨fun h => by simp at h, fun _ => rfl⟩, fun q hq => ?_⟩
        rw [hq]
        refine h0 ?_ k o
        unfold oneP
        rw [hk]
    · refine ⟨fun b => b = false, ⟨fun h => by simp at h, fun _ => rfl⟩, fun q hq => ?_⟩
      rw [hq]
      rw [hcut] at ho
      refine h0 ?_ k _
      unfold oneP
      rw [ho]
      cases parS (s.take 64) <;> rfl
  exact ⟨fun k hk => key k .ok (.inl ⟨hk, rfl⟩), fun hk => key _ _ (.inr ⟨hk, rfl⟩)⟩
/-- the records that a text begins with -/
def readP (s : List UInt8) : List Ent :=
  if h : 195 ≤ s.length then
    match oneP (s.take 195) with
    | some e => e :: readP (s.drop 195)
    | none => []
  else []
 termination_by s.length
 decreasing_by simp; omega
theorem readP_short {s : List UInt8} (h : s.length < 195) : readP s = [] := by
  unfold readP
  rw [dif_neg (by omega)]
theorem readP_some {s : List UInt8} {e : Ent} (h : 195 ≤ s.length) (ho : oneP (s.take 195) = some e) : readP s = e :: readP (s.drop 195) := by
  conv => lhs; unfold readP
  rw [dif_pos h, ho]
theorem readP_none {s : List UInt8} (ho : oneP (s.take 195) = none) : readP s = [] := by
  unfold readP
  split
  · rw [ho]
  · rfl
theorem readP_rec {e : Ent} (h : Ok32 e) (s : List UInt8) : readP (recP e ++ s) = e :: readP s := by
  have hl := recP_len h
  rw [readP_some (e := e) (by rw [List.length_append]; omega) (by rw [List.take_left' hl]; exact oneP_of h), List.drop_left' hl]
/-- a journal's text -/
def jrn (l : List Ent) : List UInt8 := l.flatMap recP
theorem jrn_len : ∀ {l : List Ent}, (∀ e ∈ l, Ok32 e) → (jrn l).length = 195 * l.length
  | [], _ => rfl
  | e :: l, h => by
    have ih := jrn_len (l := l) fun x hx => h x (List.mem_cons_of_mem _ hx)
    unfold jrn at *
    rw [List.flatMap_cons, List.length_append, recP_len (h e List.mem_cons_self), ih, List.length_cons]
    omega
theorem jrn_app (a b : List Ent) : jrn (a ++ b) = jrn a ++ jrn b := by unfold jrn; rw [List.flatMap_append]
theorem readP_jrn : ∀ {l : List Ent} (s : List UInt8), (∀ e ∈ l, Ok32 e) → readP (jrn l ++ s) = l ++ readP s
  | [], s, _ => rfl
  | e :: l, s, h => by
    have ih := readP_jrn (l := l) s fun x hx => h x (List.mem_cons_of_mem _ hx)
    unfold jrn at *
    rw [List.flatMap_cons, List.append_assoc, readP_rec (h e List.mem_cons_self), ih]
    rfl
theorem readP_ok : ∀ (n : Nat) (s : List UInt8), s.length ≤ n → (∀ e ∈ readP s, Ok32 e) ∧ 195 * (readP s).length ≤ s.length
  | n, s, hn => by
    by_cases h : 195 ≤ s.length
    · cases ho : oneP (s.take 195) with
      | none => rw [readP_none ho]; simp
      | some e =>
        match n, hn with
        | 0, hn => omega
        | n + 1, hn =>
          obtain ⟨h1, h2⟩ := readP_ok n (s.drop 195) (by rw [List.length_drop]; omega)
          rw [readP_some h ho]
          refine ⟨fun x hx => ?_, ?_⟩
          · rcases List.mem_cons.1 hx with rfl | hx
            · exact (oneP_rec ho).2
            · exact h1 x hx
          · rw [List.length_drop] at h2
            rw [List.length_cons]
            omega
    · rw [readP_short (by omega)]; simp
theorem cread_M {text : List UInt8} {K : List Ent → Int → Prop} (ht : text.length ≤ 100000000) (h : K (readP text) (195 * (readP text).length : Nat)) : M_cache_Read text K := by
  refine ⟨fun l n => l = readP text ∧ n = ((195 * (readP text).length : Nat) : Int), ?_, fun l n ⟨e1, e2⟩ => by rw [e1, e2]; exact h⟩
  refine ⟨fun l n => n = ((195 * l.length : Nat) : Int) ∧ n ≤ text.length ∧ l ++ readP (text.drop (195 * l.length)) = readP text, fun _ n => text.length - n.toNat, ⟨by simp, by omega, by simp⟩, fun l n ⟨a0, a1, a2⟩ => ⟨by simp only [In]; omega, fun hle => ?_, fun hgt => ?_⟩⟩
  · have hn : n.toNat = 195 * l.length := by omega
    have hcut : (text.drop n.toNat).take ((n + 195).toNat - n.toNat) = (text.drop (195 * l.length)).take 195 := by rw [hn]; congr 1; omega
    have hlen : 195 ≤ (text.drop (195 * l.length)).length := by rw [List.length_drop]; omega
    refine ⟨by simp only [In]; omega, ⟨by omega, by omega, by omega⟩, ?_⟩
    rw [hcut]
    refine one_M (by rw [List.length_take]; omega) (fun k o ho => ⟨fun hf => (by cases hf), fun _ => ⟨?_, by simp only [In]; omega, ⟨?_, by omega, ?_⟩, by (try dsimp only); omega⟩⟩) (fun ho k o => ⟨fun _ => ?_, fun hf => (by cases hf)⟩)
    · simp only [List.length_cons, List.length_nil]; omega
    · simp only [List.length_append, List.length_cons, List.length_nil]; omega
    · rw [readP_some hlen ho, List.drop_drop] at a2
      rw [← a2, List.append_assoc]
      simp only [List.length_append, List.length_cons, List.length_nil]
      rw [show 195 * (l.length + (0 + 1)) = 195 * l.length + 195 by omega]
      rfl
    · rw [readP_none ho, List.append_nil] at a2
      exact ⟨a2, by rw [← a2]; exact a0⟩
  · rw [readP_short (by rw [List.length_drop]; omega), List.append_nil] at a2
    exact ⟨a2, by rw [← a2]; exact a0⟩
/-- entries laid into a map, one behind the other -/
def layE (l : List Ent) (m : List Ent) : List Ent := l.foldl (fun m e => mput m e.1 e.2) m
theorem mput_len_le (m : List Ent) (k v : List UInt8) : (mput m k v).length ≤ m.length + 1 := by rw [mput_len]; split <;> omega
theorem layE_len : ∀ (l m : List Ent), (layE l m).length ≤ m.length + l.length
  | [], m => Nat.le_refl _
  | e :: l, m => by
    have h1 := layE_len l (mput m e.1 e.2)
    have h2 := mput_len_le m e.1 e.2
    show (layE l (mput m e.1 e.2)).length ≤ _
    rw [List.length_cons]; omega
theorem layE_app (a b m : List Ent) : layE (a ++ b) m = layE b (layE a m) := List.foldl_append
/-- opening: what is left when the last loop has laid the entries -/
theorem lay_loop {es : List Ent} {p : List UInt8} {fs : DF} {ops left : Int} {down : Bool} {K : List UInt8 → List Ent → Er → DF → Int → Int → Bool → Prop} (hes : ∀ e ∈ es, Ok32 e) (hl : es.length ≤ 1000000) (h : K p (layE es []) .ok fs ops left down) :
    Lp2 (fun (t57 : Int) (t542 : List (List UInt8 × List UInt8)) kont1 => ((t57 < (es.length : Int) → (0 ≤ t57 ∧ t57 < (es.length : Nat)) ∧ (((es.getD t57.toNat ([], [])).1).length = 32 ∧ t542.length < maxLen) ∧ (In .i64 (t57 + (1 : Int))) ∧ kont1 (t57 + (1 : Int)) (mput t542 ((es.getD t57.toNat ([], [])).1) ((es.getD t57.toNat ([], [])).2))) ∧
      (¬ (t57 < (es.length : Int)) → K p t542 Er.ok fs ops left down))) (0 : Int) ([] : List (List UInt8 × List UInt8)) := by
  refine ⟨fun i m => 0 ≤ i ∧ i ≤ es.length ∧ m = layE (es.take i.toNat) [], fun i _ => es.length - i.toNat, ⟨by omega, by omega, rfl⟩, fun i m ⟨a0, a1, a2⟩ => ⟨fun hlt => ?_, fun hge => ?_⟩⟩
  · have hi : i.toNat < es.length := by omega
    have e : es.getD i.toNat ([], []) = es[i.toNat] := by simp [List.getD, hi]
    have hm := layE_len (es.take i.toNat) []
    rw [← a2, List.length_take] at hm
    simp only [List.length_nil] at hm
    rw [e]
    refine ⟨⟨a0, hlt⟩, ⟨(hes _ (List.getElem_mem hi)).1, by unfold maxLen; omega⟩, by simp only [In]; omega, ⟨by omega, by omega, ?_⟩, by (try dsimp only); omega⟩
    rw [show (i + 1).toNat = i.toNat + 1 by omega, List.take_succ_eq_append_getElem hi, layE_app, ← a2]
    rfl
  · obtain rfl : i = es.length := by omega
    rw [a2]
    simpa using h
end Go.Proofs.YtlonpmajnglmoaaDoor


 /- A cache, plainly: opened, put, risen. -/
namespace Go.Proofs.YtlonpmajnglmoaaDoor
open Go Go.RowKit
theorem numV_M {n below : Int} {K : Int → Prop} (hn : In .i64 n) (hb : 0 < below) (hb2 : below ≤ 100000) (h : K ((n.tmod below + below) % below)) : M_smithyworld_Number n below K := by
  unfold M_smithyworld_Number
  have h1 := Int.tmod_lt_of_pos n hb
  have h2 := Int.lt_tmod_of_pos n hb
  simp only [In] at hn
  refine ⟨by omega, by simp only [In]; omega, by omega, ?_⟩
  have h3 : 0 ≤ n.tmod below + below := by omega
  rw [Int.tmod_eq_emod_of_nonneg h3]
  exact h
/-! ### names and their digests -/
def nix (n : Int) : Nat := ((n.tmod 12 + 12) % 12).toNat
theorem nix_lt (n : Int) : nix n < 12 := by unfold nix; generalize n.tmod 12 = m; omega
def nm12 (k : Nat) : List UInt8 := [110, UInt8.ofNat (97 + k)]
theorem nm12_cut : ∀ k, k < 12 → ([110] : List UInt8) ++ ((([97, 98, 99, 100, 101, 102, 103, 104, 105, 106, 107, 108] : List UInt8).drop k).take 1) = nm12 k := by decide
theorem name_M {n : Int} {K : List UInt8 → Prop} (hn : In .i64 n) (h : K (nm12 (nix n))) : M_smithylaw25_name n K := by
  have hx := nix_lt n
  have e : ((n.tmod 12 + 12) % 12) = (nix n : Int) := by unfold nix; generalize n.tmod 12 = m; omega
  refine numV_M hn (by omega) (by omega) (numV_M hn (by omega) (by omega) ?_)
  rw [e]
  generalize nix n = k at *
  refine ⟨by simp only [In]; omega, ⟨by omega, by omega, by simp only [List.length_cons, List.length_nil]; omega⟩, by simp only [List.length_cons, List.length_nil, List.length_take, List.length_drop]; omega, ?_⟩
  rw [show ((k : Int) + 1).toNat - (k : Int).toNat = 1 by omega, Int.toNat_natCast, nm12_cut k hx]
  exact h
def Dg (k : Nat) : List UInt8 := shaS (nm12 k)
theorem Dg_len (k : Nat) : (Dg k).length = 32 := shaS_len _
theorem Dg_heads : (List.range 12).map (fun k => (Dg k).headD 0) = [61, 102, 11, 5, 203, 76, 213, 50, 77, 209, 207, 24] := by kernel_rfl
theorem Dg_inj {j k : Nat} (hj : j < 12) (hk : k < 12) (h : Dg j = Dg k) : j = k := by
  have e : ∀ i, i < 12 → (Dg i).headD 0 = ([61, 102, 11, 5, 203, 76, 213, 50, 77, 209, 207, 24] : List UInt8).getD i 0 := by
    intro i hi
    rw [← Dg_heads]
    simp [List.getD, hi]
  have h2 : ∀ j, j < 12 → ∀ k, k < 12 → ([61, 102, 11, 5, 203, 76, 213, 50, 77, 209, 207, 24] : List UInt8).getD j 0 = ([61, 102, 11, 5, 203, 76, 213, 50, 77, 209, 207, 24] : List UInt8).getD k 0 → j = k := by decide
  exact h2 j hj k hk (by rw [← e j hj, ← e k hk, h])
theorem src_M {t : List UInt8} {K : List UInt8 → Prop} (ht : t.length ≤ 1000) (h : K (shaS t)) : M_key_Source t K := ⟨by unfold maxLen; omega, by omega, h⟩
theorem srcN_M {k : Nat} {K : List UInt8 → Prop} (h : K (Dg k)) : M_key_Source (nm12 k) K := src_M (by simp [nm12]) h
theorem sameD_M {a b : List UInt8} {K : Bool → Prop} (ha : a.length = 32) (e : a = b) (h : K true) : M_smithyref17_SameSum a b K := by
  subst e
  exact sameSum_M ha ha (by simpa using h)
attribute [local irreducible] shaS manyS hexS
/-! ### opened -/
def openF (fs : DF) (p : List UInt8) : DF :=
  if 195 * (readP (dtext fs p)).length < (dtext fs p).length then mput fs p ((dtext fs p).take (195 * (readP (dtext fs p)).length), true, (dtext fs p).take (195 * (readP (dtext fs p)).length), true, []) else fs
theorem open0_M {fs : DF} {p : List UInt8} {ops : Int} {K0 : Er → DF → Int → Int → Bool → Prop} {K : List UInt8 → List Ent → Er → DF → Int → Int → Bool → Prop} (hp : p.length ≤ 1000) (hv : validB p = true) (h0 : 0 ≤ ops) (h1 : ops ≤ 1000000) (hf : fs.length < 2000) (ht : (dtext fs p).length ≤ 65536) (hx : (fil fs p).1.length ≤ 1000000) (hs : (fil fs p).2.2.2.2.length ≤ 100000)
    (h : ∀ ops', ops ≤ ops' → ops' ≤ ops + 3 → K p (layE (readP (dtext fs p)) []) .ok (openF fs p) ops' 0 false) : M_cache_Open fs ops 0 false p K0 K := by
  have hr := readP_ok _ (dtext fs p) (Nat.le_refl _)
  refine dread0_M (by unfold maxLen; omega) h0 (by omega) ⟨fun hne => absurd rfl hne, fun _ => ?_⟩
  refine cread_M (by omega) ?_
  refine ⟨fun fs' o l d => fs' = openF fs p ∧ ops + 1 ≤ o ∧ o ≤ ops + 3 ∧ l = 0 ∧ d = false, ⟨fun hlt => ⟨⟨by omega, by omega⟩, ?_⟩, fun hge => ?_⟩, fun fs' o l d ⟨e1, e2, e3, e4, e5⟩ => ?_⟩
  · rw [Int.toNat_natCast]
    refine put0_M (by omega) (by omega) (by omega) (by omega) (by rw [List.length_take]; omega) hx (by omega) ?_
    rw [dlay_ok hv hf (by rw [if_neg (by omega), List.length_take]; omega), if_neg (by omega)]
    refine ⟨fun hne => absurd rfl hne, fun _ => ?_⟩
    refine sync0_M (by omega) (by omega) (by omega) ?_
    have e1 : ∀ s w l, dsync (mput fs p ((dtext fs p).take (195 * (readP (dtext fs p)).length), true, s, w, l)) p = (.ok, mput fs p ((dtext fs p).take (195 * (readP (dtext fs p)).length), true, (dtext fs p).take (195 * (readP (dtext fs p)).length), true, [])) := by
      intro s w l
      unfold dsync
      rw [if_neg (by rw [hv]; simp), mget_same, fil_put, if_pos rfl, mput_mput]; rfl
    rw [e1]
    refine ⟨fun hne => absurd rfl hne, fun _ => ⟨?_, by omega, by omega, rfl, rfl⟩⟩
    unfold openF
    rw [if_pos (by omega)]
  · refine ⟨?_, by omega, by omega, rfl, rfl⟩
    unfold openF
    rw [if_neg (by omega)]
  · subst e4; subst e5; subst e1
    exact lay_loop hr.1 (by omega) (h o (by omega) e3)
/-! ### put -/
theorem mget_in {m : List Ent} {k v : List UInt8} (h : mget m k = some v) : (k, v) ∈ m := by
  induction m with
  | nil => simp [mget] at h
  | cons p m ih =>
    unfold mget at h
    split at h
    · rename_i e; simp only [Option.some.injEq] at h; rw [← h, ← e]; simp
    · exact List.mem_cons_of_mem _ (ih h)
theorem cput_M {fs fs2 : DF} {ops left : Int} {down : Bool} {p k out : List UInt8} {l : List Ent} {K : Er → List UInt8 → List Ent → DF → Int → Int → Bool → Prop} (hk : k.length = 32) (ho : out.length = 32) (hll : l.length ≤ 1000000) (hls : ∀ e ∈ l, Ok32 e) (h0 : 0 ≤ ops) (h1 : ops ≤ 1000000) (hl : left ≤ 1000000) (hp : p.length ≤ 1000) (hf : fs.length ≤ 1000) (hx : (fil fs p).1.length ≤ 1000000) (hs : (fil fs p).2.2.2.2.length ≤ 1000000) (hd : dlay fs p (recP (k, out)) 1 = (.ok, fs2))
    (hsame : mget l k = some out → K .ok p l fs ops left down)
    (hnew : mget l k ≠ some out → ∀ o l' d, (∀ e, dcall ops left down = (e, o, l', d) → e ≠ .ok → K e p l fs o l' d) ∧ (dcall ops left down = (.ok, o, l', d) → K .ok p (mput l k out) fs2 o l' d)) : M_pcache_Cache_Put fs ops left down p l k out K := by
  refine ⟨hk, fun hi => ⟨?_, ho⟩, fun hb => ?_, fun hb => ?_⟩
  · obtain ⟨v, hv⟩ := Option.isSome_iff_exists.1 hi
    rw [hv]; exact (hls (k, v) (mget_in hv)).2
  · rw [Bool.and_eq_true, decide_eq_true_eq] at hb
    refine hsame ?_
    obtain ⟨v, hv⟩ := Option.isSome_iff_exists.1 hb.1
    rw [hv] at hb ⊢
    simpa using hb.2
  · refine record_M ⟨hk, ho⟩ ?_
    have hne : mget l k ≠ some out := fun e => by rw [e] at hb; simp at hb
    refine put_M (by omega) h0 (by omega) (by omega) (by omega) (by rw [recP_len ⟨hk, ho⟩]; omega) hx hs fun o l' d => ⟨fun e he hn => ⟨fun _ => (hnew hne o l' d).1 e he hn, fun h => absurd h hn⟩, fun he => ?_⟩
    rw [hd]
    exact ⟨fun h => absurd rfl h, fun _ => ⟨⟨hk, by unfold maxLen; omega⟩, (hnew hne o l' d).2 he⟩⟩
/-! ### the journal's file -/
theorem jrn_snoc (l : List Ent) (e : Ent) : jrn (l ++ [e]) = jrn l ++ recP e := by
  rw [jrn_app]
  unfold jrn
  rw [List.flatMap_cons, List.flatMap_nil, List.append_nil]
def chg (e : Ent) : Int × List UInt8 := (1, recP e)
def jf (p : List UInt8) (sl rl : List Ent) (w : Bool) : DF := [(p, (jrn (sl ++ rl), true, jrn sl, w, rl.map chg))]
/-- the journal's file holds sl (let last) and rl behind it -/
def JS (fs : DF) (p : List UInt8) (sl rl : List Ent) : Prop := (fs = [] ∧ sl = [] ∧ rl = []) ∨ ∃ w, fs = jf p sl rl w ∧ (w = false → sl = [])
theorem fil_one (p : List UInt8) (x : Fil) : fil [(p, x)] p = x := by simp [fil, mget]
theorem JS.len {fs : DF} {p : List UInt8} {sl rl : List Ent} (h : JS fs p sl rl) : fs.length ≤ 1 := by
  rcases h with ⟨rfl, _, _⟩ | ⟨w, rfl, _⟩ <;> simp [jf]
theorem JS.fil1 {fs : DF} {p : List UInt8} {sl rl : List Ent} (h : JS fs p sl rl) : (fil fs p).1 = jrn (sl ++ rl) := by
  rcases h with ⟨rfl, rfl, rfl⟩ | ⟨w, rfl, _⟩
  · rfl
  · unfold jf; rw [fil_one]
theorem JS.since {fs : DF} {p : List UInt8} {sl rl : List Ent} (h : JS fs p sl rl) : (fil fs p).2.2.2.2 = rl.map chg := by
  rcases h with ⟨rfl, rfl, rfl⟩ | ⟨w, rfl, _⟩
  · rfl
  · unfold jf; rw [fil_one]
theorem JS.text {fs : DF} {p : List UInt8} {sl rl : List Ent} (h : JS fs p sl rl) : dtext fs p = jrn (sl ++ rl) := by
  rcases h with ⟨rfl, rfl, rfl⟩ | ⟨w, rfl, _⟩
  · rfl
  · unfold dtext thereB jf; rw [fil_one, if_pos rfl]
theorem JS.put {fs : DF} {p : List UInt8} {sl rl : List Ent} {e : Ent} (h : JS fs p sl rl) (hv : validB p = true) (ho : ∀ x ∈ sl ++ rl, Ok32 x) (he : Ok32 e) (hl : (sl ++ rl).length ≤ 100) : ∃ fs2, dlay fs p (recP e) 1 = (.ok, fs2) ∧ JS fs2 p sl (rl ++ [e]) := by
  have h1 := recP_len he
  have h2 := jrn_len ho
  have h3 := h.len
  have h4 := h.fil1
  rw [dlay_ok hv (by omega) (by rw [h4]; split <;> (try rw [List.length_append]) <;> omega)]
  refine ⟨_, rfl, ?_⟩
  rcases h with ⟨rfl, rfl, rfl⟩ | ⟨w, rfl, hw⟩
  · refine .inr ⟨false, ?_, fun _ => rfl⟩
    show [(p, (if (1 : Int) = 1 ∧ thereB [] p = true then _ else recP e, true, ([] : List UInt8), false, [((1 : Int), recP e)]))] = _
    rw [if_neg (by rintro ⟨_, h⟩; cases h)]
    have : jrn [e] = recP e := jrn_snoc [] e
    unfold jf
    show _ = [(p, (jrn [e], _))]
    rw [this]; rfl
  · refine .inr ⟨w, ?_, hw⟩
    have ht : thereB (jf p sl rl w) p = true := by unfold thereB jf; rw [fil_one]
    have hf : fil (jf p sl rl w) p = (jrn (sl ++ rl), true, jrn sl, w, rl.map chg) := fil_one _ _
    rw [if_pos ⟨rfl, ht⟩, hf]
    unfold jf
    rw [← List.append_assoc, jrn_snoc, List.map_append]
    simp [mput, chg]
/-! ### the chapter's example -/
theorem dcall0 (ops : Int) : dcall ops 0 false = (.ok, ops + 1, 0, false) := by simp [dcall]
theorem js_nil (p : List UInt8) : JS [] p [] [] := .inl ⟨rfl, rfl, rfl⟩
theorem open_js {fs : DF} {p : List UInt8} {ops : Int} {sl rl : List Ent} {K0 : Er → DF → Int → Int → Bool → Prop} {K : List UInt8 → List Ent → Er → DF → Int → Int → Bool → Prop} (hj : JS fs p sl rl) (ho : ∀ x ∈ sl ++ rl, Ok32 x) (hl : (sl ++ rl).length ≤ 100) (hp : p.length ≤ 1000) (hv : validB p = true) (h0 : 0 ≤ ops) (h1 : ops ≤ 1000000)
    (h : ∀ ops', ops ≤ ops' → ops' ≤ ops + 3 → K p (layE (sl ++ rl) []) .ok fs ops' 0 false) : M_cache_Open fs ops 0 false p K0 K := by
  have h3 := hj.len
  have h4 := jrn_len ho
  have ht := hj.text
  have hr : readP (dtext fs p) = sl ++ rl := by
    have := readP_jrn [] ho
    rw [List.append_nil, readP_short (s := []) (by simp), List.append_nil] at this
    rw [ht, this]
  have hop : openF fs p = fs := by
    unfold openF
    rw [hr, ht, h4, if_neg (by omega)]
  rw [List.length_append] at hl h4
  refine open0_M hp hv h0 h1 (by omega) (by rw [ht]; omega) (by rw [hj.fil1]; omega) (by rw [hj.since, List.length_map]; omega) fun ops' g1 g2 => ?_
  rw [hr, hop]
  exact h ops' g1 g2
theorem cfirst_M {K : Bool → Prop} (h : K true) : M_smithylaw25_first K := by
  have vj : validB ([106] : List UInt8) = true := by decide +kernel
  refine new0_M ⟨fun h => absurd rfl h, fun _ => ?_⟩
  refine open_js (js_nil _) (by simp) (by simp) (by simp) vj (by omega) (by omega) fun ops o0 o1 => ⟨fun h => absurd rfl h, fun _ => ?_⟩
  refine src_M (by simp) (src_M (by simp) ?_)
  have oe : Ok32 (shaS [97], shaS [98]) := ⟨shaS_len _, shaS_len _⟩
  obtain ⟨fs2, hd, hj⟩ := (js_nil [106]).put (e := (shaS [97], shaS [98])) vj (by simp) oe (by simp)
  have ho : ∀ x ∈ ([] : List Ent) ++ ([] ++ [(shaS [97], shaS [98])]), Ok32 x := by simpa using oe
  have hlen := jrn_len ho
  have hf2 := hj.fil1
  have hs2 := hj.since
  have hl2 := hj.len
  refine cput_M (shaS_len _) (shaS_len _) (by simp [layE]) (by simp [layE]) (by omega) (by omega) (by omega) (by simp) (by simp) (by simp [fil, mget, fz]) (by simp [fil, mget, fz]) hd (fun h => (by simp [layE, mget] at h)) fun _ o l' d => ⟨fun e he hn => ?_, fun he => ?_⟩
  · rw [dcall0] at he
    simp only [Prod.mk.injEq] at he
    exact absurd he.1.symm hn
  · rw [dcall0] at he
    simp only [Prod.mk.injEq, true_and] at he
    obtain ⟨rfl, rfl, rfl⟩ := he
    refine src_M (by simp) (src_M (by simp) ?_)
    have hm : mput (layE ([] ++ []) []) (shaS [97]) (shaS [98]) = [(shaS [97], shaS [98])] := rfl
    rw [hm]
    obtain ⟨fs3, hd3, _⟩ := hj.put (e := (shaS [97], shaS [98])) vj ho oe (by simp)
    refine cput_M (shaS_len _) (shaS_len _) (by simp) (by simpa using oe) (by omega) (by omega) (by omega) (by simp) (by omega) (by rw [hf2, hlen]; simp) (by rw [hs2]; simp) hd3 (fun _ => ?_) (fun hne => absurd (by simp [mget]) hne)
    refine dread0_M (by simp [maxLen]) (by omega) (by omega) ?_
    have ht : thereB fs2 [106] = true := by
      rcases hj with ⟨_, _, h⟩ | ⟨w, rfl, _⟩
      · simp at h
      · unfold thereB jf; rw [fil_one]
    rw [hj.text, ht]
    refine ⟨fun b => b = true, ⟨fun _ => ?_, fun hf => ?_⟩, fun q hq => by rw [hq]; exact h⟩
    · show decide _ = true
      simp
    · rw [hlen] at hf
      simp at hf
end Go.Proofs.YtlonpmajnglmoaaDoor


 /- CacheLast, plainly. -/
namespace Go.Proofs.YtlonpmajnglmoaaDoor
open Go Go.RowKit
attribute [local irreducible] shaS manyS hexS Dg recP
theorem wf_in {x : Int} (h : (Lit.int .i64 x).wf = true) : In .i64 x := by simpa [Lit.wf, In, IntKind.min, IntKind.max, IntKind.signed, IntKind.bits] using h
theorem layE_snoc (l : List Ent) (k v : List UInt8) : layE (l ++ [(k, v)]) [] = mput (layE l []) k v := layE_app l [(k, v)] []
def cnt (a : List Int) : Nat → Nat
  | 0 => 0
  | m + 1 => cnt a m + if 0 ≤ a.getD m 0 then 1 else 0
theorem cnt_set {a : List Int} {k : Nat} {v : Int} (hv : 0 ≤ v) : ∀ m, m ≤ a.length → cnt (a.set k v) m = if k < m ∧ ¬ 0 ≤ a.getD k 0 then cnt a m + 1 else cnt a m
  | 0, _ => by rw [if_neg (fun h => absurd h.1 (Nat.not_lt_zero _))]; rfl
  | m + 1, h => by
    have ih := cnt_set (a := a) (k := k) hv m (by omega)
    unfold cnt
    rw [ih]
    by_cases hkm : k = m
    · subst hkm
      rw [getD_setF (show k < a.length by omega), if_pos rfl, if_pos hv, if_neg (fun h => absurd h.1 (Nat.lt_irrefl _))]
      by_cases h0 : 0 ≤ a.getD k 0
      · rw [if_pos h0, if_neg (fun h => h.2 h0)]
      · rw [if_neg h0, if_pos ⟨by omega, h0⟩]
    · have e : (a.set k v).getD m 0 = a.getD m 0 := by
        by_cases hk : k < a.length
        · rw [getD_setF hk, if_neg hkm]
        · rw [List.set_eq_of_length_le (show a.length ≤ k by omega)]
      rw [e]
      by_cases h1 : k < m ∧ ¬ 0 ≤ a.getD k 0
      · have h2 : k < m + 1 ∧ ¬ 0 ≤ a.getD k 0 := ⟨by omega, h1.2⟩
        rw [if_pos h1, if_pos h2]; omega
      · have h2 : ¬ (k < m + 1 ∧ ¬ 0 ≤ a.getD k 0) := fun h2 => h1 ⟨by omega, h2.2⟩
        rw [if_neg h1, if_neg h2]
/-- what the law keeps, and what the cache holds -/
structure LI (last : List Int) (cl log : List Ent) : Prop where
  l4 : last.length = 4
  rng : ∀ k, k < 4 → -1 ≤ last.getD k 0 ∧ last.getD k 0 < 3
  get : ∀ k, k < 4 → mget cl (Dg k) = if last.getD k 0 < 0 then none else some (Dg (last.getD k 0).toNat)
  len : cl.length = cnt last 4
  lay : cl = layE log []
  ok : ∀ e ∈ log, Ok32 e
theorem LI.at {last : List Int} {cl log : List Ent} (h : LI last cl log) {k v : Nat} (hk : k < 4) (hv : v < 3) : mget cl (Dg k) = some (Dg v) ↔ last.getD k 0 = v := by
  have hr := h.rng k hk
  rw [h.get k hk]
  constructor
  · intro e
    by_cases h0 : last.getD k 0 < 0
    · rw [if_pos h0] at e; cases e
    · rw [if_neg h0, Option.some.injEq] at e
      have := Dg_inj (by omega) (by omega) e
      omega
  · intro e
    rw [e, if_neg (by omega), Int.toNat_natCast]
theorem LI.put {last : List Int} {cl log : List Ent} (h : LI last cl log) {k v : Nat} (hk : k < 4) (hv : v < 3) : LI (last.set k v) (mput cl (Dg k) (Dg v)) (log ++ [(Dg k, Dg v)]) := by
  have hl := h.l4
  refine ⟨by rw [List.length_set, hl], fun j hj => ?_, fun j hj => ?_, ?_, ?_, fun e he => ?_⟩
  · rw [getD_setF (by omega)]
    split
    · omega
    · exact h.rng j hj
  · rw [getD_setF (by omega), mget_mput]
    by_cases e : k = j
    · subst e
      rw [if_pos rfl, if_pos rfl, if_neg (by omega), Int.toNat_natCast]
    · rw [if_neg (fun e2 => e (Dg_inj (by omega) (by omega) e2)), if_neg e]
      exact h.get j hj
  · rw [mput_len, h.get k hk, h.len, cnt_set (by omega) 4 (by omega)]
    by_cases h0 : last.getD k 0 < 0
    · have hc : k < 4 ∧ ¬ 0 ≤ last.getD k 0 := ⟨hk, by omega⟩
      rw [if_pos h0, if_pos hc]; rfl
    · have hc : ¬ (k < 4 ∧ ¬ 0 ≤ last.getD k 0) := fun h => h.2 (by omega)
      rw [if_neg h0, if_neg hc]; rfl
  · rw [layE_snoc, ← h.lay]
  · rcases List.mem_append.1 he with he | he
    · exact h.ok e he
    · rw [List.mem_singleton.1 he]; exact ⟨Dg_len _, Dg_len _⟩
end Go.Proofs.YtlonpmajnglmoaaDoor


 /- CacheFalls, plainly. -/
namespace Go.Proofs.YtlonpmajnglmoaaDoor
open Go Go.RowKit
attribute [local irreducible] shaS manyS hexS Dg recP
/-! ### tables of names and of their digests -/
def fE (e : Ent) : Ent := (shaS e.1, shaS e.2)
def nE (l : List Int) (i : Nat) : Ent := (nm12 (nix (l.getD i 0)), nm12 (nix (i : Int)))
def nents (l : List Int) (n : Nat) : List Ent := (List.range n).map (nE l)
/-- the names' table when n have been put -/
def Nt (l : List Int) (n : Nat) : List Ent := layE (nents l n) []
/-- the cache's table when n have been put -/
def Ct (l : List Int) (n : Nat) : List Ent := (Nt l n).map fE
theorem Dg_eq (k : Nat) : Dg k = shaS (nm12 k) := by unfold Dg; rfl
/-- whatever rises of what was not let last is what some first part of the entries makes -/
def FPp (l : List Int) (sl rl : List Ent) (safe put : Int) : Prop := ∀ m, m ≤ rl.length → ∃ n : Nat, safe ≤ n ∧ (n : Int) ≤ put ∧ layE (sl ++ rl.take m) [] = Ct l n
structure FI (l : List Int) (safe put i : Int) (p : List UInt8) (cl : List Ent) (fs : DF) (ops left : Int) (down : Bool) : Prop where
  i0 : 0 ≤ i
  i1 : i ≤ l.length
  pi : i = put
  s0 : 0 ≤ safe
  s1 : safe ≤ i
  pp : p = [106]
  dn : down = false
  l0 : 0 < left
  l1 : left ≤ 60
  o0 : 0 ≤ ops
  o1 : ops ≤ 10 + 2 * i
  js : ∃ sl rl, JS fs [106] sl rl ∧ (∀ x ∈ sl ++ rl, Ok32 x) ∧ (sl ++ rl).length ≤ i.toNat ∧ cl = layE (sl ++ rl) [] ∧ cl = Ct l i.toNat ∧ FPp l sl rl safe i
structure FE (l : List Int) (safe put : Int) (fs : DF) (ops left : Int) : Prop where
  s0 : 0 ≤ safe
  s1 : safe ≤ put
  p1 : put ≤ l.length
  o0 : 0 ≤ ops
  o1 : ops ≤ 200
  l1 : left ≤ 60
  js : ∃ sl rl, JS fs [106] sl rl ∧ (∀ x ∈ sl ++ rl, Ok32 x) ∧ (sl ++ rl).length ≤ 50 ∧ FPp l sl rl safe put
end Go.Proofs.YtlonpmajnglmoaaDoor


 /- ShaSays, plainly. -/
namespace Go.Proofs.YtlonpmajnglmoaaDoor
open Go Go.RowKit
theorem or_lo (b : Nat) (h : b < 16) : bits .or .u8 (shlV .u8 ((0 : Nat) : Int) 4) (b : Int) = b := by
  have : ∀ b : Fin 16, bits .or .u8 (shlV .u8 ((0 : Nat) : Int) 4) (b.val : Int) = (b.val : Int) := by decide
  exact this ⟨b, h⟩
theorem u8_small (a : Nat) (h : a < 16) : (UInt8.ofNat a).toNat = a := by rw [UInt8.toNat_ofNat']; omega
theorem set_mid {L : List UInt8} {n m : Nat} (hL : L.length = n) (x y : UInt8) (r : List UInt8) (hr : m = n) : (L ++ x :: r).set m y = L ++ y :: r := by
  subst hr; subst hL
  rw [List.set_append_right _ _ (by omega), Nat.sub_self, List.set_cons_zero]
theorem getD_mid {L : List UInt8} {n m : Nat} (hL : L.length = n) (x : UInt8) (r : List UInt8) (hr : m = n) : (L ++ x :: r).getD m 0 = x := by
  subst hr; subst hL
  simp [List.getD]
theorem rep_cons {n : Nat} (h : n < 32) : List.replicate (32 - n) (0 : UInt8) = 0 :: List.replicate (31 - n) 0 := by
  rw [show 32 - n = (31 - n) + 1 by omega, List.replicate_succ]
def UI (s : List UInt8) (p : Nat) (out : List UInt8) : Prop :=
  (∃ n L, p = 2 * n ∧ parN s n = some L ∧ out = L ++ List.replicate (32 - n) 0) ∨
  (∃ n L a, p = 2 * n + 1 ∧ parN s n = some L ∧ digV (s.getD (2 * n) 0) = some a ∧ out = L ++ UInt8.ofNat a :: List.replicate (31 - n) 0)
theorem UI.none {s : List UInt8} {p : Nat} {out : List UInt8} (h : UI s p out) (hp : p < 64) (hl : s.length = 64) (hd : digV (s.getD p 0) = none) : parS s = none := by
  unfold parS
  rw [if_pos hl]
  rcases h with ⟨n, L, rfl, h1, h2⟩ | ⟨n, L, a, rfl, h1, h2, h3⟩
  · have := parN_none s (n + 1) (by rw [parN, h1, hd]) (31 - n)
    rwa [show n + 1 + (31 - n) = 32 by omega] at this
  · have := parN_none s (n + 1) (by rw [parN, h1, h2, hd]) (31 - n)
    rwa [show n + 1 + (31 - n) = 32 by omega] at this
theorem UI.step {s : List UInt8} {p b : Nat} {out : List UInt8} (h : UI s p out) (hp : p < 64) (hd : digV (s.getD p 0) = some b) :
    (0 ≤ bits .or .u8 (shlV .u8 ((out.getD (p / 2) 0).toNat : Int) 4) (b : Int) ∧ bits .or .u8 (shlV .u8 ((out.getD (p / 2) 0).toNat : Int) 4) (b : Int) ≤ 255) ∧ UI s (p + 1) (out.set (p / 2) (UInt8.ofNat (bits .or .u8 (shlV .u8 ((out.getD (p / 2) 0).toNat : Int) 4) (b : Int)).toNat)) := by
  have hb := digV_lt hd
  rcases h with ⟨n, L, rfl, h1, h2⟩ | ⟨n, L, a, rfl, h1, h2, h3⟩
  · have hL := parN_len s n L h1
    rw [rep_cons (by omega)] at h2
    have e0 : out.getD (2 * n / 2) 0 = 0 := by rw [h2]; exact getD_mid hL _ _ (by omega)
    have e1 : ((0 : UInt8).toNat : Int) = ((0 : Nat) : Int) := rfl
    rw [e0, e1, or_lo b hb]
    refine ⟨by omega, .inr ⟨n, L, b, rfl, h1, hd, ?_⟩⟩
    rw [h2, set_mid hL _ _ _ (by omega), Int.toNat_natCast]
  · have hL := parN_len s n L h1
    have ha := digV_lt h2
    have e0 : (out.getD ((2 * n + 1) / 2) 0).toNat = a := by rw [h3, getD_mid hL _ _ (by omega), u8_small a ha]
    rw [e0]
    have ho := or_in ha hb
    have hlt := (u8v (bits .or .u8 (shlV .u8 (a : Int) 4) (b : Int))).toNat_lt
    refine ⟨by omega, .inl ⟨n + 1, L ++ [u8v (bits .or .u8 (shlV .u8 (a : Int) 4) (b : Int))], by omega, by rw [parN, h1, h2, hd], ?_⟩⟩
    rw [h3, set_mid hL _ _ _ (by omega)]
    have : UInt8.ofNat (bits .or .u8 (shlV .u8 (a : Int) 4) (b : Int)).toNat = u8v (bits .or .u8 (shlV .u8 (a : Int) 4) (b : Int)) := by
      rw [← ho, Int.toNat_natCast, UInt8.ofNat_toNat, ho]
    rw [this]
    simp
theorem unhex_M {s : List UInt8} {K : List UInt8 → Bool → Prop} (h1 : ∀ l, parS s = some l → K l true) (h0 : parS s = none → K (List.replicate 32 0) false) : M_smithyref17_unhex s K := by
  refine ⟨fun hne => h0 (by unfold parS; rw [if_neg (by omega)]), fun he => ?_⟩
  have hl : s.length = 64 := by omega
  refine ⟨fun i _ out => 0 ≤ i ∧ i ≤ 64 ∧ UI s i.toNat out, fun i _ _ => 64 - i.toNat, ⟨by omega, by omega, .inl ⟨0, [], rfl, rfl, rfl⟩⟩, fun i t out ⟨a0, a1, a2⟩ => ⟨fun hlt => ⟨by omega, ?_⟩, fun hge => ?_⟩⟩
  · generalize hc : s.getD i.toNat 0 = c
    refine ⟨fun d => ∃ b : Nat, digV c = some b ∧ d = b, ⟨fun h => ?_, fun h => ⟨fun h' => ?_, fun h' => ?_⟩⟩, ?_⟩
    · simp only [Bool.and_eq_true, decide_eq_true_eq] at h
      exact ⟨by simp only [In]; omega, c.toNat - 48, by unfold digV; rw [if_pos (by omega)], by omega⟩
    · simp only [Bool.and_eq_false_iff, decide_eq_false_iff_not] at h
      simp only [Bool.and_eq_true, decide_eq_true_eq] at h'
      exact ⟨by simp only [In]; omega, by simp only [In]; omega, c.toNat - 87, by unfold digV; rw [if_neg (by omega), if_pos (by omega)], by omega⟩
    · simp only [Bool.and_eq_false_iff, decide_eq_false_iff_not] at h h'
      exact h0 (a2.none (by omega) hl (by rw [hc]; unfold digV; rw [if_neg (by omega), if_neg (by omega)]))
    · rintro _ ⟨b, hb, rfl⟩
      have hi2 : (i / 2).toNat = i.toNat / 2 := by omega
      have hs := a2.step (by omega) (by rw [hc]; exact hb)
      have hol : out.length = 32 := by
        rcases a2 with ⟨n, L, e, h2, h3⟩ | ⟨n, L, a, e, h2, _, h3⟩ <;> (have := parN_len s n L h2; rw [h3]; simp; omega)
      rw [hi2]
      refine ⟨⟨by omega, by omega, by simp only [In]; omega⟩, ⟨by omega, by omega, by simp only [In]; omega⟩, by omega, by omega, hs.1, hol, by simp only [In]; omega, ⟨by omega, by omega, ?_⟩, by dsimp only; omega⟩
      rw [show (i + 1).toNat = i.toNat + 1 by omega]
      exact hs.2
  · rcases a2 with ⟨n, L, e, h2, h3⟩ | ⟨n, L, a, e, h2, _, h3⟩
    · obtain rfl : n = 32 := by omega
      have : out = L := by rw [h3]; simp
      rw [this]
      exact h1 L (by unfold parS; rw [if_pos hl]; exact h2)
    · omega
end Go.Proofs.YtlonpmajnglmoaaDoor


 /- CacheReads, plainly. -/
namespace Go.Proofs.YtlonpmajnglmoaaDoor
open Go Go.RowKit
attribute [local irreducible] shaS manyS hexS Dg
theorem rrecord_M {k o : List UInt8} {K : List UInt8 → Prop} (h : Ok32 (k, o)) (hK : K (recP (k, o))) : M_smithyref17_Record k o K := by
  have h1 := hex64 h.1
  have h2 := hex64 h.2
  dsimp only at h1 h2
  refine hex_M h.1 (hex_M h.2 ⟨by simp only [List.length_cons, List.length_nil]; omega, by simp only [List.length_append, List.length_cons, List.length_nil]; omega, by simp only [List.length_append, List.length_cons, List.length_nil]; omega, rmany_M (by simp) (fun x hx => ?_) (hex_M (manyS_len _) ⟨?_, ?_, hK⟩)⟩)
  · simp only [List.mem_cons, List.not_mem_nil, or_false] at hx
    rcases hx with rfl | rfl <;> omega
  · have h3 := hex64 (manyS_len [hexS k, hexS o])
    simp only [List.length_append, List.length_cons, List.length_nil]; omega
  · have h3 := hex64 (manyS_len [hexS k, hexS o])
    simp only [List.length_append, List.length_cons, List.length_nil]; omega
theorem oneP_none {T : List UInt8} (h : parS (T.take 64) = none ∨ parS ((T.drop 65).take 64) = none) : oneP (T.take 195) = none := by
  have e1 : (T.take 195).take 64 = T.take 64 := by rw [List.take_take]; rfl
  have e2 : ((T.take 195).drop 65).take 64 = (T.drop 65).take 64 := by rw [List.drop_take, List.take_take]; rfl
  unfold oneP
  rw [e1, e2]
  rcases h with h | h
  · rw [h]
  · rw [h]; cases parS (T.take 64) <;> rfl
theorem oneP_two {T k o : List UInt8} (h : parS (T.take 64) = some k) (h2 : parS ((T.drop 65).take 64) = some o) : oneP (T.take 195) = if recP (k, o) = T.take 195 then some (k, o) else none := by
  have e1 : (T.take 195).take 64 = T.take 64 := by rw [List.take_take]; rfl
  have e2 : ((T.take 195).drop 65).take 64 = (T.drop 65).take 64 := by rw [List.drop_take, List.take_take]; rfl
  unfold oneP
  rw [e1, e2, h, h2]
theorem rj_M {text : List UInt8} {K : List Ent → Int → Prop} (ht : text.length ≤ 100000000) (h : K (readP text) (195 * (readP text).length : Nat)) : M_smithyref17_ReadJournal text K := by
  refine ⟨fun l n => l = readP text ∧ n = ((195 * (readP text).length : Nat) : Int), ?_, fun l n ⟨e1, e2⟩ => by rw [e1, e2]; exact h⟩
  refine ⟨fun l n => n = ((195 * l.length : Nat) : Int) ∧ n ≤ text.length ∧ l ++ readP (text.drop (195 * l.length)) = readP text, fun _ n => text.length - n.toNat, ⟨by simp, by omega, by simp⟩, fun l n ⟨a0, a1, a2⟩ => ⟨by simp only [In]; omega, fun hle => ?_, fun hgt => ?_⟩⟩
  · have hlen : 195 ≤ (text.drop (195 * l.length)).length := by rw [List.length_drop]; omega
    have c1 : (text.drop n.toNat).take ((n + 64).toNat - n.toNat) = (text.drop (195 * l.length)).take 64 := by
      rw [show n.toNat = 195 * l.length by omega, show (n + 64).toNat - 195 * l.length = 64 by omega]
    have c2 : (text.drop (n + 65).toNat).take ((n + 129).toNat - (n + 65).toNat) = ((text.drop (195 * l.length)).drop 65).take 64 := by
      rw [List.drop_drop, show (n + 65).toNat = 195 * l.length + 65 by omega, show (n + 129).toNat - (195 * l.length + 65) = 64 by omega]
    have c3 : (text.drop n.toNat).take ((n + 195).toNat - n.toNat) = (text.drop (195 * l.length)).take 195 := by
      rw [show n.toNat = 195 * l.length by omega, show (n + 195).toNat - 195 * l.length = 195 by omega]
    refine ⟨by simp only [In]; omega, ⟨by omega, by omega, by omega⟩, ?_⟩
    rw [c1, c2, c3]
    generalize hT : text.drop (195 * l.length) = T at hlen a2 ⊢
    have stop : oneP (T.take 195) = none → l = readP text ∧ n = ((195 * (readP text).length : Nat) : Int) := fun ho => by
      rw [readP_none ho, List.append_nil] at a2
      exact ⟨a2, by rw [← a2]; exact a0⟩
    refine unhex_M (fun k hk => ?_) (fun hk => ?_)
    · refine ⟨by simp only [In]; omega, by simp only [In]; omega, ⟨by omega, by omega, by omega⟩, unhex_M (fun o ho => ?_) (fun ho => ?_)⟩
      · have h2 := oneP_two hk ho
        refine ⟨fun b => b = !decide (recP (k, o) = T.take 195), ⟨fun h => (by simp at h), fun _ => rrecord_M ⟨parS_len hk, parS_len ho⟩ ⟨by simp only [In]; omega, ⟨by omega, by omega, by omega⟩, rfl⟩⟩, fun q hq => ⟨fun h => ?_, fun h => ?_⟩⟩
        · rw [hq, Bool.not_eq_true', decide_eq_false_iff_not] at h
          rw [if_neg h] at h2
          exact stop h2
        · rw [hq, Bool.not_eq_false', decide_eq_true_eq] at h
          rw [if_pos h] at h2
          refine ⟨by simp only [List.length_cons, List.length_nil]; omega, by simp only [In]; omega, ⟨?_, by omega, ?_⟩, by (try dsimp only); omega⟩
          · simp only [List.length_append, List.length_cons, List.length_nil]; omega
          · rw [readP_some hlen h2, ← hT, List.drop_drop] at a2
            rw [← a2, List.append_assoc]
            simp only [List.length_append, List.length_cons, List.length_nil]
            rw [show 195 * (l.length + (0 + 1)) = 195 * l.length + 195 by omega]
            rfl
      · exact ⟨fun b => b = true, ⟨fun _ => rfl, fun h => (by simp at h)⟩, fun q hq => ⟨fun _ => stop (oneP_none (.inr ho)), fun h => (by rw [hq] at h; cases h)⟩⟩
    · refine ⟨by simp only [In]; omega, by simp only [In]; omega, ⟨by omega, by omega, by omega⟩, unhex_M (fun o ho => ?_) (fun ho => ?_)⟩
      · exact ⟨fun b => b = true, ⟨fun _ => rfl, fun h => (by simp at h)⟩, fun q hq => ⟨fun _ => stop (oneP_none (.inl hk)), fun h => (by rw [hq] at h; cases h)⟩⟩
      · exact ⟨fun b => b = true, ⟨fun _ => rfl, fun h => (by simp at h)⟩, fun q hq => ⟨fun _ => stop (oneP_none (.inl hk)), fun h => (by rw [hq] at h; cases h)⟩⟩
  · rw [readP_short (by rw [List.length_drop]; omega), List.append_nil] at a2
    exact ⟨a2, by rw [← a2]; exact a0⟩
theorem same_M {a : List Ent} {K : Bool → Prop} (ho : ∀ e ∈ a, Ok32 e) (hl : a.length ≤ 1000000) (h : K true) : M_smithylaw25_same a a K := by
  intro _ _
  refine ⟨fun hne => absurd rfl hne, fun _ => ⟨fun i => 0 ≤ i ∧ i ≤ a.length, fun i => a.length - i.toNat, ⟨by omega, by omega⟩, fun i ⟨a0, a1⟩ => ⟨fun hlt => ?_, fun _ => h⟩⟩⟩
  have hi : i.toNat < a.length := by omega
  have e : a.getD i.toNat ([], []) = a[i.toNat] := by simp [List.getD, hi]
  have hk := ho _ (List.getElem_mem hi)
  rw [e]
  refine ⟨⟨a0, hlt⟩, ⟨a0, hlt⟩, sameD_M hk.1 rfl ⟨fun b => b = false, ⟨fun h => (by simp at h), fun _ => ⟨⟨a0, hlt⟩, ⟨a0, hlt⟩, sameD_M hk.2 rfl rfl⟩⟩, fun q hq => ⟨fun h => (by rw [hq] at h; cases h), fun _ => ⟨by simp only [In]; omega, ⟨by omega, by omega⟩, by (try dsimp only); omega⟩⟩⟩⟩
theorem readP_cut {W : List Ent} (ho : ∀ e ∈ W, Ok32 e) {k : Nat} (hk : k ≤ (jrn W).length) : readP ((jrn W).take k) = W.take (k / 195) := by
  have hj := jrn_len ho
  have hq : k / 195 ≤ W.length := by omega
  have hot : ∀ e ∈ W.take (k / 195), Ok32 e := fun e he => ho e (List.mem_of_mem_take he)
  have ht := jrn_len hot
  rw [List.length_take, Nat.min_eq_left hq] at ht
  have e : (jrn W).take k = jrn (W.take (k / 195)) ++ (jrn (W.drop (k / 195))).take (k - 195 * (k / 195)) := by
    conv => lhs; rw [← List.take_append_drop (k / 195) W, jrn_app]
    rw [List.take_append, ht, List.take_of_length_le (by omega)]
  rw [e, readP_jrn _ hot, readP_short (by rw [List.length_take]; omega), List.append_nil]
def eE (l : List Int) (j : Nat) : Ent := (Dg (nix (l.getD j 0)), Dg (nix (j : Int)))
theorem reads_ok {text : List UInt8} {l : List Int} {at_ : Int} {K : Bool → Prop} (_ : text.length ≤ maxLen) (hin : ∀ x ∈ l, (Lit.int .i64 x).wf = true) (hat : In .i64 at_) (H : K true) : M_smithylaw25_CacheReads text l at_ K := by
  intro _
  refine cfirst_M ⟨fun h => by simp at h, fun _ => ⟨fun _ => H, fun hc => ?_⟩⟩
  have hb : text.length ≤ 2000 ∧ l.length ≤ 10 := by
    rw [Bool.or_eq_false_iff, Bool.or_eq_false_iff, decide_eq_false_iff_not, decide_eq_false_iff_not] at hc; omega
  have hx : ∀ i : Nat, i < l.length → In .i64 (l.getD i 0) := fun i hi => by
    rw [show l.getD i 0 = l[i] by simp [List.getD, hi]]
    exact wf_in (hin _ (List.getElem_mem hi))
  have hr := readP_ok _ text (Nat.le_refl _)
  refine cread_M (by omega) (rj_M (by omega) ?_)
  refine ⟨fun b => b = false, ⟨fun h => (by simp at h), fun _ => same_M hr.1 (by omega) rfl⟩, fun q hq => ⟨fun h => (by rw [hq] at h; cases h), fun _ => ?_⟩⟩
  have hWok : ∀ n, ∀ e ∈ (List.range n).map (eE l), Ok32 e := fun n e he => by
    obtain ⟨j, _, rfl⟩ := List.mem_map.1 he
    exact ⟨Dg_len _, Dg_len _⟩
  refine ⟨fun s want i => 0 ≤ i ∧ i ≤ l.length ∧ want = (List.range i.toNat).map (eE l) ∧ s = jrn want, fun _ _ i => l.length - i.toNat, ⟨by omega, by omega, rfl, rfl⟩, fun s want i ⟨a0, a1, a2, a3⟩ => ⟨fun hlt => ?_, fun hge => ?_⟩⟩
  · have hi : i.toNat < l.length := by omega
    have hii : (i.toNat : Int) = i := by omega
    have oe : Ok32 (Dg (nix (l.getD i.toNat 0)), Dg (nix i)) := ⟨Dg_len _, Dg_len _⟩
    have hwl : want.length = i.toNat := by rw [a2, List.length_map, List.length_range]
    have hsl : s.length = 195 * i.toNat := by rw [a3, jrn_len (by rw [a2]; exact hWok _), hwl]
    have hrl := recP_len oe
    have hin2 : In .i64 i := by simp only [In]; omega
    refine ⟨⟨a0, hlt⟩, name_M (hx _ hi) (srcN_M (name_M hin2 (srcN_M ⟨⟨a0, hlt⟩, name_M (hx _ hi) (sum_M (by simp [nm12]) (name_M hin2 (sum_M (by simp [nm12]) ?_)))⟩)))⟩
    rw [← Dg_eq, ← Dg_eq]
    refine record_M oe (rrecord_M oe ⟨fun h => absurd rfl h, fun _ => record_M oe ⟨by omega, by simp only [List.length_cons, List.length_nil]; omega, by simp only [In]; omega, ⟨by omega, by omega, ?_, ?_⟩, by (try dsimp only); omega⟩⟩)
    · rw [show (i + 1).toNat = i.toNat + 1 by omega, List.range_succ, List.map_append, ← a2]
      show _ = want ++ [(Dg (nix (l.getD i.toNat 0)), Dg (nix (i.toNat : Int)))]
      rw [hii]
    · rw [jrn_snoc, a3]
  · obtain rfl : i = l.length := by omega
    have hwl : want.length = l.length := by rw [a2, List.length_map, List.length_range]; omega
    have hwo : ∀ e ∈ want, Ok32 e := by rw [a2]; exact hWok _
    have hsl : s.length = 195 * l.length := by rw [a3, jrn_len hwo, hwl]
    refine ⟨by simp only [In]; omega, numR_M hat (by omega) (by omega) fun k k0 k1 => ⟨⟨k0, by omega⟩, cread_M (by rw [List.length_take]; omega) ?_⟩⟩
    have hcut : readP (s.take k.toNat) = want.take (k.toNat / 195) := by
      rw [a3]
      exact readP_cut hwo (by rw [← a3]; omega)
    have hq : (k / 195).toNat = k.toNat / 195 := by omega
    have hlen : (want.take (k.toNat / 195)).length = k.toNat / 195 := by rw [List.length_take]; omega
    rw [hcut, hq, hlen]
    refine ⟨⟨k0, by omega, by simp only [In]; omega⟩, by simp only [In]; omega, fun b => b = true, ⟨fun _ => ⟨⟨k0, by omega, by simp only [In]; omega⟩, ⟨by omega, by omega⟩, same_M (fun e he => hwo e (List.mem_of_mem_take he)) (by omega) rfl⟩, fun hd => ?_⟩, fun q hq => by rw [hq]; exact H⟩
    exfalso
    rw [decide_eq_false_iff_not] at hd
    omega
end Go.Proofs.YtlonpmajnglmoaaDoor


 