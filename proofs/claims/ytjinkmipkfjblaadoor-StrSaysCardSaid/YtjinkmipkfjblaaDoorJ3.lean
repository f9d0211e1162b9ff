/- Texts of this claim, joined by a program: GSt, GSr, Ord. -/
import Derived.Test.YtjinkmipkfjblaaDoorJ2
/- Printed by a program (wip/vg): what the functions mean, plainly, and their walks. -/
namespace Go.Proofs.YtjinkmipkfjblaaDoor
open Go Go.RowKit
attribute [local irreducible] WL WC WX WQ WK WJ Yld Eff Ef0 Fn
def M_str_Split (s : List UInt8) (by_ : List UInt8) (most : Int) (K : (List (List UInt8)) → Er → Prop) : Prop :=
 ((by_ = ([] : List UInt8) → K [] (Er.e 3)) ∧
 (¬ (by_ = ([] : List UInt8)) → M_strings_Count s by_ (fun (n : Int) =>
 ∃ J1 : Int → Prop, ((((0 : Int) ≤ most → J1 (if most < n then most else n)) ∧
 (¬ ((0 : Int) ≤ most) → J1 n))) ∧
 (∀ n2 : Int, J1 n2 → (((1024 : Int) ≤ n2 → K [] (Er.e 7)) ∧
 (¬ ((1024 : Int) ≤ n2) → (In .i64 (n2 + (1 : Int))) ∧
 M_strings_SplitN s by_ (n2 + (1 : Int)) (fun (t6 : List (List UInt8)) =>
 K t6 Er.ok)))))))

def M_str_Words (s : List UInt8) (K : (List (List UInt8)) → Prop) : Prop :=
 Lp3 (fun (l : List (List UInt8)) (from_ : Int) (i : Int) k_1 => ((i ≤ (s.length : Int) → ∃ J1 : (List (List UInt8)) → Int → Prop, (∃ J2 : Bool → Prop, ((((decide (i < (s.length : Int))) = true → (0 ≤ i ∧ i < s.length) ∧
 M_strings_IndexByte ([32, 9, 10, 13, 11, 12] : List UInt8) ((s.getD i.toNat 0).toNat : Int) (fun (t20 : Int) =>
 J2 (decide (t20 < (0 : Int))))) ∧
 ((decide (i < (s.length : Int))) = false → J2 false))) ∧
 (∀ q1 : Bool, J2 q1 → ((q1 = true → J1 l from_) ∧
 (q1 = false → ∃ J3 : (List (List UInt8)) → Prop, (((from_ < i → (0 ≤ from_ ∧ from_ ≤ i ∧ i ≤ s.length) ∧
 ((l.length + (([(s.drop from_.toNat).take (i.toNat - from_.toNat)] : List (List UInt8))).length) * 16 ≤ 140737488355328) ∧
 J3 (l ++ ([(s.drop from_.toNat).take (i.toNat - from_.toNat)] : List (List UInt8)))) ∧
 (¬ (from_ < i) → J3 l))) ∧
 (∀ l3 : List (List UInt8), J3 l3 → (In .i64 (i + (1 : Int))) ∧
 J1 l3 (i + (1 : Int))))))) ∧
 (∀ l2 : List (List UInt8), ∀ from_2 : Int, J1 l2 from_2 → (In .i64 (i + (1 : Int))) ∧
 k_1 l2 from_2 (i + (1 : Int)))) ∧
 (¬ (i ≤ (s.length : Int)) → K l))) [] (0 : Int) (0 : Int)

def M_str_Join (by_ : List UInt8) (l : List (List UInt8)) (K : (List UInt8) → Er → Prop) : Prop :=
 (l.length ≤ maxLen →
 Lp2 (fun (n : Int) (t11 : Int) k_1 => ((t11 < (l.length : Int) → (0 ≤ t11 ∧ t11 < (l.length : Nat)) ∧
 ∃ J1 : Int → Prop, ((((0 : Int) < t11 → (In .i64 (n + (by_.length : Int))) ∧
 J1 (n + (by_.length : Int))) ∧
 (¬ ((0 : Int) < t11) → J1 n))) ∧
 (∀ n2 : Int, J1 n2 → (In .i64 (n2 + ((l.getD t11.toNat []).length : Int))) ∧
 (((1024 : Int) < (n2 + ((l.getD t11.toNat []).length : Int)) → K ([] : List UInt8) (Er.e 7)) ∧
 (¬ ((1024 : Int) < (n2 + ((l.getD t11.toNat []).length : Int))) → (In .i64 (t11 + (1 : Int))) ∧
 k_1 (n2 + ((l.getD t11.toNat []).length : Int)) (t11 + (1 : Int)))))) ∧
 (¬ (t11 < (l.length : Int)) → M_strings_Join l by_ (fun (t4 : List UInt8) =>
 K t4 Er.ok)))) (0 : Int) (0 : Int))

def M_str_Count (s : List UInt8) (what : List UInt8) (K : Int → Prop) : Prop :=
 ((what = ([] : List UInt8) → (In .i64 ((s.length : Int) + (1 : Int))) ∧
 K ((s.length : Int) + (1 : Int))) ∧
 (¬ (what = ([] : List UInt8)) → M_strings_Count s what (fun (t4 : Int) =>
 K t4)))

def M_str_Replace (s : List UInt8) (old : List UInt8) (by_ : List UInt8) (most : Int) (K : (List UInt8) → Er → Prop) : Prop :=
 M_str_Count s old (fun (n : Int) =>
 ∃ J1 : Int → Prop, ((((0 : Int) ≤ most → J1 (if most < n then most else n)) ∧
 (¬ ((0 : Int) ≤ most) → J1 n))) ∧
 (∀ n2 : Int, J1 n2 → (In .i64 (n2 * (old.length : Int))) ∧
 (In .i64 ((s.length : Int) - (n2 * (old.length : Int)))) ∧
 ((decide ((1024 : Int) < ((s.length : Int) - (n2 * (old.length : Int))))) = false → (decide ((0 : Int) < (by_.length : Int))) = true → (In .i64 (n2 * (old.length : Int)))) ∧
 ((decide ((1024 : Int) < ((s.length : Int) - (n2 * (old.length : Int))))) = false → (decide ((0 : Int) < (by_.length : Int))) = true → (In .i64 ((s.length : Int) - (n2 * (old.length : Int))))) ∧
 ((decide ((1024 : Int) < ((s.length : Int) - (n2 * (old.length : Int))))) = false → (decide ((0 : Int) < (by_.length : Int))) = true → (In .i64 ((1024 : Int) - ((s.length : Int) - (n2 * (old.length : Int)))))) ∧
 ((decide ((1024 : Int) < ((s.length : Int) - (n2 * (old.length : Int))))) = false → (decide ((0 : Int) < (by_.length : Int))) = true → (0 ≤ (1024 : Int) - ((s.length : Int) - (n2 * (old.length : Int))) ∧ 0 < (by_.length : Int) ∧ In .i64 ((1024 : Int) - ((s.length : Int) - (n2 * (old.length : Int)))))) ∧
 ((((decide ((1024 : Int) < ((s.length : Int) - (n2 * (old.length : Int))))) || ((decide ((0 : Int) < (by_.length : Int))) && (decide ((((1024 : Int) - ((s.length : Int) - (n2 * (old.length : Int)))) / (by_.length : Int)) < n2)))) = true → K ([] : List UInt8) (Er.e 7)) ∧
 (((decide ((1024 : Int) < ((s.length : Int) - (n2 * (old.length : Int))))) || ((decide ((0 : Int) < (by_.length : Int))) && (decide ((((1024 : Int) - ((s.length : Int) - (n2 * (old.length : Int)))) / (by_.length : Int)) < n2)))) = false → ((¬ (old = ([] : List UInt8)) → M_strings_Replace s old by_ n2 (fun (t8 : List UInt8) =>
 K t8 Er.ok)) ∧
 (old = ([] : List UInt8) → Lp2 (fun (i : Int) (b1 : List UInt8) k_1 => ((i ≤ (s.length : Int) → ∃ J2 : (List UInt8) → Prop, (∃ J3 : (List UInt8) → Prop, (((i < n2 → (b1.length + by_.length ≤ 140737488355328) ∧
 J3 (b1 ++ by_)) ∧
 (¬ (i < n2) → J3 b1))) ∧
 (∀ b13 : List UInt8, J3 b13 → ((i < (s.length : Int) → (0 ≤ i ∧ i < s.length) ∧
 (b13.length + ([s.getD i.toNat 0] : List UInt8).length ≤ 140737488355328) ∧
 J2 (b13 ++ [s.getD i.toNat 0])) ∧
 (¬ (i < (s.length : Int)) → J2 b13)))) ∧
 (∀ b12 : List UInt8, J2 b12 → (In .i64 (i + (1 : Int))) ∧
 k_1 (i + (1 : Int)) b12)) ∧
 (¬ (i ≤ (s.length : Int)) → K b1 Er.ok))) (0 : Int) []))))))

def M_str_bound (n : Int) (i : Int) (K : Int → Prop) : Prop :=
 ∃ J1 : Int → Prop, (((i < (0 : Int) → (In .i64 (i + n)) ∧
 J1 (i + n)) ∧
 (¬ (i < (0 : Int)) → J1 i))) ∧
 (∀ i2 : Int, J1 i2 → K (if n < (if i2 < (0 : Int) then (0 : Int) else i2) then n else (if i2 < (0 : Int) then (0 : Int) else i2)))

def M_str_Cut (n : Int) (from_ : Int) (to_ : Int) (has : Bool) (until_ : Bool) (K : Int → Int → Prop) : Prop :=
 ∃ J1 : Int → Prop, ((((!has) = true → J1 (0 : Int)) ∧
 ((!has) = false → J1 from_))) ∧
 (∀ from_2 : Int, J1 from_2 → ∃ J2 : Int → Prop, ((((!until_) = true → J2 (if n < (0 : Int) then (0 : Int) else n)) ∧
 ((!until_) = false → J2 to_))) ∧
 (∀ to_2 : Int, J2 to_2 → M_str_bound (if n < (0 : Int) then (0 : Int) else n) from_2 (fun (from_3 : Int) =>
 M_str_bound (if n < (0 : Int) then (0 : Int) else n) to_2 (fun (to_3 : Int) =>
 K from_3 (if from_3 < to_3 then to_3 else from_3)))))

def M_str_Find (s : List UInt8) (what : List UInt8) (from_ : Int) (to_ : Int) (K : Int → Prop) : Prop :=
 M_str_Cut (s.length : Int) from_ to_ true true (fun (t150 : Int) (t151 : Int) =>
 (0 ≤ t150 ∧ t150 ≤ t151 ∧ t151 ≤ s.length) ∧
 M_strings_Index ((s.drop t150.toNat).take (t151.toNat - t150.toNat)) what (fun (k : Int) =>
 ((k < (0 : Int) → K (-1 : Int)) ∧
 (¬ (k < (0 : Int)) → (In .i64 (t150 + k)) ∧
 K (t150 + k)))))

def M_str_Strip (s : List UInt8) (bytes : List UInt8) (left : Bool) (right : Bool) (K : (List UInt8) → Prop) : Prop :=
 ∃ J1 : (List UInt8) → Prop, (((bytes = ([] : List UInt8) → J1 ([32, 9, 10, 13, 11, 12] : List UInt8)) ∧
 (¬ (bytes = ([] : List UInt8)) → J1 bytes))) ∧
 (∀ bytes2 : List UInt8, J1 bytes2 → Lp1 (fun (s2 : List UInt8) k_1 => ∃ J2 : Bool → Prop, ((((left && (!decide (s2 = ([] : List UInt8)))) = true → (0 ≤ (0 : Int) ∧ (0 : Int) < s2.length) ∧
 M_strings_IndexByte bytes2 ((s2.getD 0 0).toNat : Int) (fun (t20 : Int) =>
 J2 (decide ((0 : Int) ≤ t20)))) ∧
 ((left && (!decide (s2 = ([] : List UInt8)))) = false → J2 false))) ∧
 (∀ q2 : Bool, J2 q2 → ((q2 = true → (0 ≤ (1 : Int) ∧ (1 : Int) ≤ s2.length) ∧
 k_1 (s2.drop 1)) ∧
 (q2 = false → Lp1 (fun (s3 : List UInt8) k_2 => ∃ J3 : Bool → Prop, ((((right && (!decide (s3 = ([] : List UInt8)))) = true → (In .i64 ((s3.length : Int) - (1 : Int))) ∧
 (0 ≤ (s3.length : Int) - (1 : Int) ∧ (s3.length : Int) - (1 : Int) < s3.length) ∧
 M_strings_IndexByte bytes2 ((s3.getD ((s3.length : Int) - (1 : Int)).toNat 0).toNat : Int) (fun (t37 : Int) =>
 J3 (decide ((0 : Int) ≤ t37)))) ∧
 ((right && (!decide (s3 = ([] : List UInt8)))) = false → J3 false))) ∧
 (∀ q4 : Bool, J3 q4 → ((q4 = true → (In .i64 ((s3.length : Int) - (1 : Int))) ∧
 (0 ≤ (s3.length : Int) - (1 : Int) ∧ (s3.length : Int) - (1 : Int) ≤ s3.length) ∧
 k_2 (s3.take ((s3.length : Int) - (1 : Int)).toNat)) ∧
 (q4 = false → K s3)))) s2)))) s)

def M_str_turned (s : List UInt8) (first : Int) (by_ : Int) (K : (List UInt8) → Prop) : Prop :=
 (s.length ≤ maxLen) ∧
 Lp2 (fun (t14 : Int) (b : List UInt8) k_1 => s.length = b.length → ((t14 < (s.length : Int) → ∃ J1 : (List UInt8) → Prop, ((0 ≤ t14 ∧ t14 < (s.length : Nat)) ∧
 ((decide (first ≤ ((b.getD t14.toNat 0).toNat : Int))) = true → (In .u8 (first + (26 : Int)))) ∧
 ((((decide (first ≤ ((b.getD t14.toNat 0).toNat : Int))) && (decide (((b.getD t14.toNat 0).toNat : Int) < (first + (26 : Int))))) = true → (In .i64 (((b.getD t14.toNat 0).toNat : Int) + by_)) ∧
 (In .u8 (((b.getD t14.toNat 0).toNat : Int) + by_)) ∧
 (0 ≤ t14 ∧ t14 < (s.length : Nat)) ∧
 (0 ≤ ((b.getD t14.toNat 0).toNat : Int) + by_ ∧ ((b.getD t14.toNat 0).toNat : Int) + by_ ≤ 255) ∧
 J1 (b.set t14.toNat (UInt8.ofNat (((b.getD t14.toNat 0).toNat : Int) + by_).toNat))) ∧
 (((decide (first ≤ ((b.getD t14.toNat 0).toNat : Int))) && (decide (((b.getD t14.toNat 0).toNat : Int) < (first + (26 : Int))))) = false → J1 b))) ∧
 (∀ xs : List UInt8, J1 xs → s.length = xs.length → (In .i64 (t14 + (1 : Int))) ∧
 k_1 (t14 + (1 : Int)) xs)) ∧
 (¬ (t14 < (s.length : Int)) → K b))) (0 : Int) s

def M_str_Upper (s : List UInt8) (K : (List UInt8) → Prop) : Prop :=
 M_str_turned s (97 : Int) (-32 : Int) (fun (t2 : List UInt8) =>
 K t2)

def M_str_Lower (s : List UInt8) (K : (List UInt8) → Prop) : Prop :=
 M_str_turned s (65 : Int) (32 : Int) (fun (t2 : List UInt8) =>
 K t2)

def M_str_Repeat (s : List UInt8) (n : Int) (K : (List UInt8) → Er → Prop) : Prop :=
 ((((decide (n < (1 : Int))) || (decide (s = ([] : List UInt8)))) = true → K ([] : List UInt8) Er.ok) ∧
 (((decide (n < (1 : Int))) || (decide (s = ([] : List UInt8)))) = false → (0 ≤ (1024 : Int) ∧ 0 < (s.length : Int) ∧ In .i64 (1024 : Int)) ∧
 ((((1024 : Int) / (s.length : Int)) < n → K ([] : List UInt8) (Er.e 7)) ∧
 (¬ (((1024 : Int) / (s.length : Int)) < n) → M_strings_Repeat s n (fun (t4 : List UInt8) =>
 K t4 Er.ok)))))

set_option maxHeartbeats 8000000 in
theorem W_str_Split {S : List Nat} {w : World} {s : List UInt8} {by_ : List UInt8} {most : Int} {K : (List (List UInt8)) → Er → Prop} (hG : GOK S w) (hS3 : 3 ∈ S) (hS7 : 7 ∈ S) (hS100 : 100 ∈ S) (H : M_str_Split s by_ most K) : Fn Tryd.prog 27 ⟨[vs s, vs by_, .int .i64 most]⟩ w (fun v w' => w.grownBy w' none ∧ ∃ (r0 : List (List UInt8)), ∃ (A_r0 : Option Addr), ∃ (c_r0 : Nat), ∃ (v_r1 : Value), ∃ (r1 : Er), v = .tuple #[.slice A_r0 r0.length c_r0, v_r1] ∧ Own vs w' w.heap.size 9 A_r0 c_r0 r0 ∧ ErrR S w' v_r1 r1 ∧ K r0 r1) := by
  unfold M_str_Split at H
  refine Fn.enter (by kernel_rfl) Tryd.func27 rfl Tryd.ntmps27 rfl ?_
  refine WC.seq ?_
  refine WC.region ?_
  refine WL.y rfl (Yld.pure tab_ok rfl) ?_
  refine WL.y rfl (Yld.pure tab_ok rfl) ?_
  refine WL.nil (WX.then_normal ?_)
  refine WC.seq ?_
  refine WC.seq ?_
  refine WC.region ?_
  refine WL.y rfl (Yld.pure tab_ok rfl) ?_
  refine WL.y rfl (Yld.pure tab_ok rfl) ?_
  refine WL.nil (WX.then_normal ?_)
  refine WC.cond rfl (fun b1 => ?_) (fun b1 => ?_)
  · replace H := H.1 (of_decide_eq_true b1)
    refine WC.seq ?_
    refine WC.quiet mixed (by kernel_rfl) ?_
    obtain ⟨vE1, _, hE1⟩ := GOK.get hG 3 2 hS3 rfl rfl
    refine WQ.y rfl (Yld.cell tab_ok (ErrR.cell hE1 rfl) rfl rfl) ?_
    refine WQ.y rfl (Yld.pure tab_ok rfl) ?_
    refine WQ.y rfl (Yld.pure tab_ok rfl) ?_
    refine WQ.nil (WX.then_normal ?_)
    refine WC.ret (WX.then_ret ?_)
    exact WX.ret2 rfl rfl rfl ⟨(gr_refl _ _), [], none, 0, vE1, (Er.e 3), rfl, (Own.nil vs w w.heap.size 9), hE1, H⟩
  · replace H := H.2 (of_decide_eq_false b1)
    refine WC.skip (WX.then_normal ?_)
    refine WC.seq ?_
    refine WC.region ?_
    refine WL.y rfl (Yld.pure tab_ok rfl) ?_
    refine WL.y rfl (Yld.pure tab_ok rfl) ?_
    refine WL.call rfl rfl (W_strings_Count hG hS100 H) ?_
    rintro _ _ ⟨rfl, n, rfl, H⟩
    refine WL.y rfl (Yld.pure tab_ok rfl) ?_
    refine WL.nil (WX.then_normal ?_)
    refine WC.seq ?_
    obtain ⟨J1, H, hJ1⟩ := H
    refine WC.midF (fun L' w' => ∃ (n2 : Int), L' = [(0, vs s), (1, vs by_), (8, .int .i64 n2)] ∧ J1 n2 ∧ w = w') ?_ (fun hQ => ?_)
    · clear H
      rintro _ _ ⟨n2, rfl, H, rfl⟩
      replace H := hJ1 n2 H
      refine WX.then_normal ?_
      refine WC.seq ?_
      refine WC.seq ?_
      refine WC.region ?_
      refine WL.y rfl (Yld.pure tab_ok rfl) ?_
      refine WL.y rfl (Yld.pure tab_ok rfl) ?_
      refine WL.nil (WX.then_normal ?_)
      refine WC.cond rfl (fun b2 => ?_) (fun b2 => ?_)
      · replace H := H.1 (of_decide_eq_true b2)
        refine WC.seq ?_
        refine WC.quiet mixed (by kernel_rfl) ?_
        obtain ⟨vE2, _, hE2⟩ := GOK.get hG 7 1 hS7 rfl rfl
        refine WQ.y rfl (Yld.cell tab_ok (ErrR.cell hE2 rfl) rfl rfl) ?_
        refine WQ.y rfl (Yld.pure tab_ok rfl) ?_
        refine WQ.y rfl (Yld.pure tab_ok rfl) ?_
        refine WQ.nil (WX.then_normal ?_)
        refine WC.ret (WX.then_ret ?_)
        exact WX.ret2 rfl rfl rfl ⟨(gr_refl _ _), [], none, 0, vE2, (Er.e 7), rfl, (Own.nil vs w w.heap.size 9), hE2, H⟩
      · replace H := H.2 (of_decide_eq_false b2)
        refine WC.skip (WX.then_normal ?_)
        refine WC.seq ?_
        refine WC.region ?_
        refine WL.y rfl (Yld.pure tab_ok rfl) ?_
        refine WL.y rfl (Yld.pure tab_ok rfl) ?_
        refine WL.y rfl (Yld.pure tab_ok rfl) ?_
        obtain ⟨h1, H⟩ := H
        refine WL.y rfl (Yld.add rfl rfl h1) ?_
        refine WL.call rfl rfl (W_strings_SplitN hG hS100 H) ?_
        rintro _ w1 ⟨hg1, t6, A_t6, c_t6, rfl, ht6, H⟩
        have hb1 := ht6.ge'
        have k1 := ht6.base (fun g hg => Nat.le_trans (Nat.le_refl _) (hb1 g hg))
        have gr1 := hg1
        refine WL.y rfl (Yld.pure tab_ok rfl) ?_
        refine WL.y rfl (Yld.pure tab_ok rfl) ?_
        refine WL.nil (WX.then_normal ?_)
        refine WC.ret ?_
        exact WX.ret2 rfl rfl rfl ⟨gr1, t6, A_t6, c_t6, .nilIface, Er.ok, rfl, k1, (ErrR.okR (S := S) (w := w1)), H⟩
    · clear hJ1
      refine WC.seq ?_
      refine WC.region ?_
      refine WL.y rfl (Yld.pure tab_ok rfl) ?_
      refine WL.y rfl (Yld.pure tab_ok rfl) ?_
      refine WL.nil (WX.then_normal ?_)
      refine WC.cond rfl (fun b3 => ?_) (fun b3 => ?_)
      · replace H := H.1 (of_decide_eq_true b3)
        refine WC.region ?_
        refine WL.y rfl (Yld.pure tab_ok rfl) ?_
        refine WL.y rfl (Yld.pure tab_ok rfl) ?_
        refine WL.y rfl (Yld.min2 rfl rfl) ?_
        refine WL.y rfl (Yld.pure tab_ok rfl) ?_
        refine WL.nil ?_
        exact WX.weaken (by repeat (first | exact Sub.nil | refine Sub.cons rfl ?_)) (hQ _ _ ⟨(if most < n then most else n), rfl, H, rfl⟩)
      · replace H := H.2 (of_decide_eq_false b3)
        refine WC.skip ?_
        exact WX.weaken (by repeat (first | exact Sub.nil | refine Sub.cons rfl ?_)) (hQ _ _ ⟨n, rfl, H, rfl⟩)

set_option maxHeartbeats 8000000 in
theorem W_str_Words {w : World} {s : List UInt8} {K : (List (List UInt8)) → Prop} (H : M_str_Words s K) : Fn Tryd.prog 24 ⟨[vs s]⟩ w (fun v w' => w.grownBy w' none ∧ ∃ (r : List (List UInt8)), ∃ (A_r : Option Addr), ∃ (c_r : Nat), v = .slice A_r r.length c_r ∧ Own vs w' w.heap.size 9 A_r c_r r ∧ K r) := by
  unfold M_str_Words at H
  refine Fn.enter (by kernel_rfl) Tryd.func24 rfl Tryd.ntmps24 rfl ?_
  refine WC.seq ?_
  refine WC.region ?_
  refine WL.y rfl (Yld.pure tab_ok rfl) ?_
  refine WL.nil (WX.then_normal ?_)
  refine WC.seq ?_
  refine WC.region ?_
  refine WL.y rfl (Yld.pure tab_ok rfl) ?_
  refine WL.nil (WX.then_normal ?_)
  refine WC.seq ?_
  refine WC.region ?_
  refine WL.y rfl (Yld.pure tab_ok rfl) ?_
  refine WL.nil (WX.then_normal ?_)
  refine WC.seq ?_
  refine WC.seq ?_
  refine WC.region ?_
  refine WL.y rfl (Yld.pure tab_ok rfl) ?_
  refine WL.nil (WX.then_normal ?_)
  refine WC.block ?_
  obtain ⟨I1, mu1, h0_1, HR1⟩ := H
  refine WC.loopF (fun n' L' w' => ∃ (l : List (List UInt8)), ∃ (A_l : Option Addr), ∃ (c_l : Nat), ∃ (n_l : Nat), ∃ (from_ : Int), ∃ (i : Int), n' = mu1 l from_ i ∧ L' = [(0, vs s), (3, .slice A_l n_l c_l), (4, .int .i64 from_), (5, .int .i64 i)] ∧ I1 l from_ i ∧ n_l = l.length ∧ w.grownBy w' none ∧ Own vs w' w.heap.size 9 A_l c_l l) _ _ ⟨[], none, 0, 0, (0 : Int), (0 : Int), rfl, rfl, h0_1, rfl, (gr_refl _ _), (Own.nil vs w w.heap.size 9)⟩ (by repeat (first | exact Sub.nil | refine Sub.cons rfl ?_)) ?_
  clear h0_1
  rintro _ _ w1 ⟨l, A_l, c_l, n_l, from_, i, rfl, rfl, hI1, rfl, gr1, k1⟩
  have H := HR1 l from_ i hI1
  refine WC.seq ?_
  refine WC.seq ?_
  refine WC.region ?_
  refine WL.y rfl (Yld.pure tab_ok rfl) ?_
  refine WL.y rfl (Yld.pure tab_ok rfl) ?_
  refine WL.y rfl (Yld.pure tab_ok rfl) ?_
  refine WL.y rfl (Yld.pure tab_ok rfl) ?_
  refine WL.nil (WX.then_normal ?_)
  refine WC.cond rfl (fun b1 => ?_) (fun b1 => ?_)
  · replace H := H.1 (of_decide_eq_true b1)
    refine WC.skip (WX.then_normal ?_)
    refine WC.seq ?_
    obtain ⟨J1, H, hJ1⟩ := H
    refine WC.midF (fun L' w' => ∃ (l2 : List (List UInt8)), ∃ (A_l2 : Option Addr), ∃ (c_l2 : Nat), ∃ (n_l2 : Nat), ∃ (from_2 : Int), L' = [(0, vs s), (3, .slice A_l2 n_l2 c_l2), (4, .int .i64 from_2), (5, .int .i64 i)] ∧ J1 l2 from_2 ∧ n_l2 = l2.length ∧ w.grownBy w' none ∧ Own vs w' w.heap.size 9 A_l2 c_l2 l2) ?_ (fun hQ => ?_)
    · clear H
      rintro _ w2 ⟨l2, A_l2, c_l2, n_l2, from_2, rfl, H, rfl, gr2, k2⟩
      replace H := hJ1 l2 from_2 H
      refine WX.then_normal ?_
      refine WC.region ?_
      refine WL.y rfl (Yld.pure tab_ok rfl) ?_
      obtain ⟨h1, H⟩ := H
      refine WL.y rfl (Yld.add rfl rfl h1) ?_
      refine WL.y rfl (Yld.pure tab_ok rfl) ?_
      refine WL.nil ?_
      exact WX.roundF _ ⟨l2, A_l2, c_l2, l2.length, from_2, i + (1 : Int), rfl, rfl, H.1, rfl, gr2, k2⟩ (by repeat (first | exact Sub.nil | refine Sub.cons rfl ?_)) H.2
    · clear hJ1
      refine WC.block ?_
      refine WC.seq ?_
      refine WC.seq ?_
      refine WC.region ?_
      refine WL.y rfl (Yld.pure tab_ok rfl) ?_
      refine WL.y rfl (Yld.pure tab_ok rfl) ?_
      refine WL.y rfl (Yld.pure tab_ok rfl) ?_
      refine WL.y rfl (Yld.pure tab_ok rfl) ?_
      refine WL.y rfl (Yld.pure tab_ok rfl) ?_
      obtain ⟨J2, H, hJ2⟩ := H
      refine WL.midF 6 (fun L' w' => ∃ q1 : Bool, L' = [(22, .bool q1), (0, vs s), (3, .slice A_l l.length c_l), (4, .int .i64 from_), (5, .int .i64 i)] ∧ J2 q1 ∧ w1 = w') ?_ (fun hQ => ?_)
      · clear H
        rintro _ _ ⟨q1, rfl, H, rfl⟩
        replace H := hJ2 q1 H
        refine WL.nil (WX.then_normal ?_)
        refine WC.cond rfl (fun b2 => ?_) (fun b2 => ?_)
        · replace H := H.1 (b2)
          refine WC.exit (WX.then_exit (WX.block_same ?_))
          exact WX.weaken (by repeat (first | exact Sub.nil | refine Sub.cons rfl ?_)) (hQ _ _ ⟨l, A_l, c_l, l.length, from_, rfl, H, rfl, gr1, k1⟩)
        · replace H := H.2 (b2)
          refine WC.skip (WX.then_normal ?_)
          refine WC.seq ?_
          obtain ⟨J3, H, hJ3⟩ := H
          refine WC.midF (fun L' w' => ∃ (l3 : List (List UInt8)), ∃ (A_l3 : Option Addr), ∃ (c_l3 : Nat), ∃ (n_l3 : Nat), L' = [(0, vs s), (3, .slice A_l3 n_l3 c_l3), (5, .int .i64 i)] ∧ J3 l3 ∧ n_l3 = l3.length ∧ w.grownBy w' none ∧ Own vs w' w.heap.size 9 A_l3 c_l3 l3) ?_ (fun hQ => ?_)
          · clear H
            rintro _ w3 ⟨l3, A_l3, c_l3, n_l3, rfl, H, rfl, gr3, k3⟩
            replace H := hJ3 l3 H
            refine WX.then_normal ?_
            refine WC.region ?_
            refine WL.y rfl (Yld.pure tab_ok rfl) ?_
            obtain ⟨h2, H⟩ := H
            refine WL.y rfl (Yld.add rfl rfl h2) ?_
            refine WL.y rfl (Yld.pure tab_ok rfl) ?_
            refine WL.nil (WX.block_normal ?_)
            exact WX.weaken (by repeat (first | exact Sub.nil | refine Sub.cons rfl ?_)) (hQ _ _ ⟨l3, A_l3, c_l3, l3.length, i + (1 : Int), rfl, H, rfl, gr3, k3⟩)
          · clear hJ3
            refine WC.seq ?_
            refine WC.region ?_
            refine WL.y rfl (Yld.pure tab_ok rfl) ?_
            refine WL.y rfl (Yld.pure tab_ok rfl) ?_
            refine WL.y rfl (Yld.pure tab_ok rfl) ?_
            refine WL.nil (WX.then_normal ?_)
            refine WC.cond rfl (fun b3 => ?_) (fun b3 => ?_)
            · replace H := H.1 (of_decide_eq_true b3)
              refine WC.region ?_
              refine WL.y rfl (Yld.pure tab_ok rfl) ?_
              refine WL.y rfl (Yld.pure tab_ok rfl) ?_
              refine WL.y rfl (Yld.pure tab_ok rfl) ?_
              refine WL.y rfl (Yld.pure tab_ok rfl) ?_
              obtain ⟨h3, H⟩ := H
              refine WL.y rfl (Yld.scut tab_ok rfl rfl rfl rfl h3.1 h3.2.1 h3.2.2) ?_
              refine WL.lit tab_ok rfl rfl rfl (all1c rfl all1n) rfl (by omega) (fun g1 w4 hB1 hg1 hl1 => ?_)
              have hO1 : Own vs w4 w.heap.size 9 (some ⟨g1, 0, none⟩) 1 ([(s.drop from_.toNat).take (i.toNat - from_.toNat)] : List (List UInt8)) := Own.ofBl hB1 (Nat.le_trans (size_le gr1) hl1) (by simp [maxLen]) rfl
              have gr4 := gr_trans gr1 hg1
              have k4 := k1.grown hg1
              obtain ⟨h4, H⟩ := H
              refine WL.append tab_ok rfl rfl One.s k4 rfl rfl hO1.rd rfl rfl h4 (applen h4) (size_le gr4) (fun A_l4 c_l4 w5 hO2 hg2 hk1 => ?_)
              have gr5 := gr_mod gr4 hg2 k4.ge'
              refine WL.y rfl (Yld.pure tab_ok rfl) ?_
              refine WL.nil ?_
              exact WX.weaken (by repeat (first | exact Sub.nil | refine Sub.cons rfl ?_)) (hQ _ _ ⟨l ++ ([(s.drop from_.toNat).take (i.toNat - from_.toNat)] : List (List UInt8)), A_l4, c_l4, (l ++ ([(s.drop from_.toNat).take (i.toNat - from_.toNat)] : List (List UInt8))).length, rfl, H, rfl, gr5, hO2⟩)
            · replace H := H.2 (of_decide_eq_false b3)
              refine WC.skip ?_
              exact WX.weaken (by repeat (first | exact Sub.nil | refine Sub.cons rfl ?_)) (hQ _ _ ⟨l, A_l, c_l, l.length, rfl, H, rfl, gr1, k1⟩)
      · clear hJ2
        rcases Bool.eq_false_or_eq_true (decide (i < (s.length : Int))) with b4 | b4
        · replace H := H.1 b4
          refine WL.gyes rfl rfl (okb b4) rfl (Yld.pure tab_ok rfl) ?_
          refine WL.gyes rfl rfl (okb b4) rfl (Yld.pure tab_ok rfl) ?_
          obtain ⟨h5, H⟩ := H
          refine WL.gyes rfl rfl (okb b4) rfl (Yld.sidx tab_ok rfl rfl rfl h5.1 h5.2) ?_
          refine WL.callw (wants_some rfl rfl (okb b4)) rfl rfl (W_strings_IndexByte H) ?_
          rintro _ _ ⟨rfl, t20, rfl, H⟩
          refine WL.gyes rfl rfl (okb b4) rfl (Yld.pure tab_ok rfl) ?_
          refine WL.y rfl (Yld.pickT (okb b4) rfl) ?_
          exact WL.weaken (by repeat (first | exact Sub.nil | refine Sub.cons rfl ?_)) (hQ _ _ ⟨decide (t20 < (0 : Int)), rfl, H, rfl⟩)
        · replace H := H.2 b4
          refine WL.gno rfl rfl (okb b4) rfl ?_
          refine WL.gno rfl rfl (okb b4) rfl ?_
          refine WL.gno rfl rfl (okb b4) rfl ?_
          refine WL.gno rfl rfl (okb b4) rfl ?_
          refine WL.gno rfl rfl (okb b4) rfl ?_
          refine WL.y rfl (Yld.pickF (okb b4) rfl) ?_
          exact WL.weaken (by repeat (first | exact Sub.nil | refine Sub.cons rfl ?_)) (hQ _ _ ⟨false, rfl, H, rfl⟩)
  · replace H := H.2 (of_decide_eq_false b1)
    refine WC.exit (WX.then_exit (WX.then_exit (WX.block_same (WX.then_normal ?_))))
    refine WC.seq ?_
    refine WC.region ?_
    refine WL.y rfl (Yld.pure tab_ok rfl) ?_
    refine WL.y rfl (Yld.pure tab_ok rfl) ?_
    refine WL.nil (WX.then_normal ?_)
    refine WC.ret ?_
    exact WX.ret1 rfl rfl ⟨gr1, l, A_l, c_l, rfl, k1, H⟩

set_option maxHeartbeats 8000000 in
theorem W_str_Join {S : List Nat} {w : World} {by_ : List UInt8} {l : List (List UInt8)} {A_l : Option Addr} {c_l : Nat} {n_l : Nat} {K : (List UInt8) → Er → Prop} (hG : GOK S w) (hS7 : 7 ∈ S) (hl : Rd vs w A_l c_l l) (hn_l : n_l = l.length) (H : M_str_Join by_ l K) : Fn Tryd.prog 25 ⟨[vs by_, .slice A_l n_l c_l]⟩ w (fun v w' => w.grownBy w' none ∧ ∃ (r0 : List UInt8), ∃ (v_r1 : Value), ∃ (r1 : Er), v = .tuple #[vs r0, v_r1] ∧ ErrR S w' v_r1 r1 ∧ K r0 r1) := by
  subst hn_l
  unfold M_str_Join at H
  refine Fn.enter (by kernel_rfl) Tryd.func25 rfl Tryd.ntmps25 rfl ?_
  replace H := H (Nat.le_trans hl.cap hl.max)
  refine WC.seq ?_
  refine WC.region ?_
  refine WL.y rfl (Yld.pure tab_ok rfl) ?_
  refine WL.y rfl (Yld.pure tab_ok rfl) ?_
  refine WL.nil (WX.then_normal ?_)
  refine WC.seq ?_
  refine WC.region ?_
  refine WL.y rfl (Yld.pure tab_ok rfl) ?_
  refine WL.nil (WX.then_normal ?_)
  refine WC.seq ?_
  refine WC.seq ?_
  refine WC.region ?_
  refine WL.y rfl (Yld.pure tab_ok rfl) ?_
  refine WL.y rfl (Yld.pure tab_ok rfl) ?_
  refine WL.y rfl (Yld.pure tab_ok rfl) ?_
  refine WL.nil (WX.then_normal ?_)
  refine WC.block ?_
  obtain ⟨I1, mu1, h0_1, HR1⟩ := H
  refine WC.loopF (fun n' L' w' => ∃ (n : Int), ∃ (t11 : Int), n' = mu1 n t11 ∧ L' = [(0, vs by_), (1, .slice A_l l.length c_l), (6, .int .i64 n), (9, .slice A_l l.length c_l), (10, .int .i64 (l.length : Int)), (11, .int .i64 t11)] ∧ I1 n t11 ∧ w = w') _ _ ⟨(0 : Int), (0 : Int), rfl, rfl, h0_1, rfl⟩ (by repeat (first | exact Sub.nil | refine Sub.cons rfl ?_)) ?_
  clear h0_1
  rintro _ _ _ ⟨n, t11, rfl, rfl, hI1, rfl⟩
  have H := HR1 n t11 hI1
  refine WC.seq ?_
  refine WC.region ?_
  refine WL.y rfl (Yld.pure tab_ok rfl) ?_
  refine WL.nil (WX.then_normal ?_)
  refine WC.seq ?_
  refine WC.cond rfl (fun b1 => ?_) (fun b1 => ?_)
  · replace H := H.1 (of_decide_eq_true b1)
    refine WC.skip (WX.then_normal ?_)
    refine WC.seq ?_
    refine WC.block ?_
    refine WC.seq ?_
    refine WC.region ?_
    refine WL.y rfl (Yld.pure tab_ok rfl) ?_
    obtain ⟨h1, H⟩ := H
    refine WL.y rfl (Yld.iaddrW tab_ok hl rfl rfl rfl rfl h1.1 h1.2) ?_
    refine WL.y rfl (Yld.iload [] tab_ok hl rfl rfl (iltN h1 rfl)) ?_
    refine WL.y rfl (Yld.pure tab_ok rfl) ?_
    refine WL.y rfl (Yld.pure tab_ok rfl) ?_
    refine WL.nil (WX.then_normal ?_)
    refine WC.seq ?_
    obtain ⟨J1, H, hJ1⟩ := H
    refine WC.midF (fun L' w' => ∃ (n2 : Int), L' = [(0, vs by_), (1, .slice A_l l.length c_l), (6, .int .i64 n2), (8, vs (l.getD t11.toNat [])), (9, .slice A_l l.length c_l), (10, .int .i64 (l.length : Int)), (11, .int .i64 t11)] ∧ J1 n2 ∧ w = w') ?_ (fun hQ => ?_)
    · clear H
      rintro _ _ ⟨n2, rfl, H, rfl⟩
      replace H := hJ1 n2 H
      refine WX.then_normal ?_
      refine WC.seq ?_
      refine WC.region ?_
      refine WL.y rfl (Yld.pure tab_ok rfl) ?_
      refine WL.y rfl (Yld.pure tab_ok rfl) ?_
      refine WL.y rfl (Yld.pure tab_ok rfl) ?_
      obtain ⟨h2, H⟩ := H
      refine WL.y rfl (Yld.add rfl rfl h2) ?_
      refine WL.y rfl (Yld.pure tab_ok rfl) ?_
      refine WL.nil (WX.then_normal ?_)
      refine WC.seq ?_
      refine WC.region ?_
      refine WL.y rfl (Yld.pure tab_ok rfl) ?_
      refine WL.y rfl (Yld.pure tab_ok rfl) ?_
      refine WL.nil (WX.then_normal ?_)
      refine WC.cond rfl (fun b2 => ?_) (fun b2 => ?_)
      · replace H := H.1 (of_decide_eq_true b2)
        refine WC.seq ?_
        refine WC.quiet mixed (by kernel_rfl) ?_
        obtain ⟨vE1, _, hE1⟩ := GOK.get hG 7 1 hS7 rfl rfl
        refine WQ.y rfl (Yld.cell tab_ok (ErrR.cell hE1 rfl) rfl rfl) ?_
        refine WQ.y rfl (Yld.pure tab_ok rfl) ?_
        refine WQ.y rfl (Yld.pure tab_ok rfl) ?_
        refine WQ.nil (WX.then_normal ?_)
        refine WC.ret (WX.block_ret (WX.then_ret (WX.then_ret (WX.block_ret (WX.then_ret ?_)))))
        exact WX.ret2 rfl rfl rfl ⟨(gr_refl _ _), ([] : List UInt8), vE1, (Er.e 7), rfl, hE1, H⟩
      · replace H := H.2 (of_decide_eq_false b2)
        refine WC.skip (WX.block_normal (WX.then_normal ?_))
        refine WC.region ?_
        obtain ⟨h3, H⟩ := H
        refine WL.y rfl (Yld.add rfl rfl h3) ?_
        refine WL.y rfl (Yld.pure tab_ok rfl) ?_
        refine WL.nil ?_
        exact WX.roundF _ ⟨n2 + ((l.getD t11.toNat []).length : Int), t11 + (1 : Int), rfl, rfl, H.1, rfl⟩ (by repeat (first | exact Sub.nil | refine Sub.cons rfl ?_)) H.2
    · clear hJ1
      refine WC.seq ?_
      refine WC.region ?_
      refine WL.y rfl (Yld.pure tab_ok rfl) ?_
      refine WL.y rfl (Yld.pure tab_ok rfl) ?_
      refine WL.nil (WX.then_normal ?_)
      refine WC.cond rfl (fun b3 => ?_) (fun b3 => ?_)
      · replace H := H.1 (of_decide_eq_true b3)
        refine WC.region ?_
        refine WL.y rfl (Yld.pure tab_ok rfl) ?_
        refine WL.y rfl (Yld.pure tab_ok rfl) ?_
        refine WL.y rfl (Yld.pure tab_ok rfl) ?_
        obtain ⟨h4, H⟩ := H
        refine WL.y rfl (Yld.add rfl rfl h4) ?_
        refine WL.y rfl (Yld.pure tab_ok rfl) ?_
        refine WL.nil ?_
        exact WX.weaken (by repeat (first | exact Sub.nil | refine Sub.cons rfl ?_)) (hQ _ _ ⟨n + (by_.length : Int), rfl, H, rfl⟩)
      · replace H := H.2 (of_decide_eq_false b3)
        refine WC.skip ?_
        exact WX.weaken (by repeat (first | exact Sub.nil | refine Sub.cons rfl ?_)) (hQ _ _ ⟨n, rfl, H, rfl⟩)
  · replace H := H.2 (of_decide_eq_false b1)
    refine WC.exit (WX.then_exit (WX.then_exit (WX.block_same (WX.then_normal ?_))))
    refine WC.seq ?_
    refine WC.region ?_
    refine WL.y rfl (Yld.pure tab_ok rfl) ?_
    refine WL.y rfl (Yld.pure tab_ok rfl) ?_
    refine WL.call rfl rfl (W_strings_Join hl rfl H) ?_
    rintro _ w1 ⟨hg1, t4, rfl, H⟩
    have gr1 := hg1
    refine WL.y rfl (Yld.pure tab_ok rfl) ?_
    refine WL.y rfl (Yld.pure tab_ok rfl) ?_
    refine WL.nil (WX.then_normal ?_)
    refine WC.ret ?_
    exact WX.ret2 rfl rfl rfl ⟨gr1, t4, .nilIface, Er.ok, rfl, (ErrR.okR (S := S) (w := w1)), H⟩

set_option maxHeartbeats 8000000 in
theorem W_str_Count {S : List Nat} {w : World} {s : List UInt8} {what : List UInt8} {K : Int → Prop} (hG : GOK S w) (hS100 : 100 ∈ S) (H : M_str_Count s what K) : Fn Tryd.prog 28 ⟨[vs s, vs what]⟩ w (fun v w' => w = w' ∧ ∃ (r : Int), v = .int .i64 r ∧ K r) := by
  unfold M_str_Count at H
  refine Fn.enter (by kernel_rfl) Tryd.func28 rfl Tryd.ntmps28 rfl ?_
  refine WC.seq ?_
  refine WC.region ?_
  refine WL.y rfl (Yld.pure tab_ok rfl) ?_
  refine WL.nil (WX.then_normal ?_)
  refine WC.seq ?_
  refine WC.seq ?_
  refine WC.region ?_
  refine WL.y rfl (Yld.pure tab_ok rfl) ?_
  refine WL.y rfl (Yld.pure tab_ok rfl) ?_
  refine WL.nil (WX.then_normal ?_)
  refine WC.cond rfl (fun b1 => ?_) (fun b1 => ?_)
  · replace H := H.1 (of_decide_eq_true b1)
    refine WC.seq ?_
    refine WC.region ?_
    refine WL.y rfl (Yld.pure tab_ok rfl) ?_
    refine WL.y rfl (Yld.pure tab_ok rfl) ?_
    obtain ⟨h1, H⟩ := H
    refine WL.y rfl (Yld.add rfl rfl h1) ?_
    refine WL.y rfl (Yld.pure tab_ok rfl) ?_
    refine WL.nil (WX.then_normal ?_)
    refine WC.ret (WX.then_ret ?_)
    exact WX.ret1 rfl rfl ⟨rfl, (s.length : Int) + (1 : Int), rfl, H⟩
  · replace H := H.2 (of_decide_eq_false b1)
    refine WC.skip (WX.then_normal ?_)
    refine WC.seq ?_
    refine WC.region ?_
    refine WL.y rfl (Yld.pure tab_ok rfl) ?_
    refine WL.y rfl (Yld.pure tab_ok rfl) ?_
    refine WL.call rfl rfl (W_strings_Count hG hS100 H) ?_
    rintro _ _ ⟨rfl, t4, rfl, H⟩
    refine WL.y rfl (Yld.pure tab_ok rfl) ?_
    refine WL.nil (WX.then_normal ?_)
    refine WC.ret ?_
    exact WX.ret1 rfl rfl ⟨rfl, t4, rfl, H⟩

set_option maxHeartbeats 8000000 in
theorem W_str_Replace {S : List Nat} {w : World} {s : List UInt8} {old : List UInt8} {by_ : List UInt8} {most : Int} {K : (List UInt8) → Er → Prop} (hG : GOK S w) (hS7 : 7 ∈ S) (hS100 : 100 ∈ S) (H : M_str_Replace s old by_ most K) : Fn Tryd.prog 29 ⟨[vs s, vs old, vs by_, .int .i64 most]⟩ w (fun v w' => w.grownBy w' none ∧ ∃ (r0 : List UInt8), ∃ (v_r1 : Value), ∃ (r1 : Er), v = .tuple #[vs r0, v_r1] ∧ ErrR S w' v_r1 r1 ∧ K r0 r1) := by
  unfold M_str_Replace at H
  refine Fn.enter (by kernel_rfl) Tryd.func29 rfl Tryd.ntmps29 rfl ?_
  refine WC.seq ?_
  refine WC.region ?_
  refine WL.y rfl (Yld.pure tab_ok rfl) ?_
  refine WL.y rfl (Yld.pure tab_ok rfl) ?_
  refine WL.nil (WX.then_normal ?_)
  refine WC.seq ?_
  refine WC.region ?_
  refine WL.y rfl (Yld.pure tab_ok rfl) ?_
  refine WL.y rfl (Yld.pure tab_ok rfl) ?_
  refine WL.call rfl rfl (W_str_Count hG hS100 H) ?_
  rintro _ _ ⟨rfl, n, rfl, H⟩
  refine WL.y rfl (Yld.pure tab_ok rfl) ?_
  refine WL.nil (WX.then_normal ?_)
  refine WC.seq ?_
  obtain ⟨J1, H, hJ1⟩ := H
  refine WC.midF (fun L' w' => ∃ (n2 : Int), L' = [(0, vs s), (1, vs old), (2, vs by_), (10, .int .i64 n2)] ∧ J1 n2 ∧ w = w') ?_ (fun hQ => ?_)
  · clear H
    rintro _ _ ⟨n2, rfl, H, rfl⟩
    replace H := hJ1 n2 H
    refine WX.then_normal ?_
    refine WC.seq ?_
    refine WC.seq ?_
    refine WC.region ?_
    refine WL.y rfl (Yld.pure tab_ok rfl) ?_
    refine WL.y rfl (Yld.pure tab_ok rfl) ?_
    refine WL.y rfl (Yld.pure tab_ok rfl) ?_
    refine WL.y rfl (Yld.pure tab_ok rfl) ?_
    refine WL.y rfl (Yld.pure tab_ok rfl) ?_
    obtain ⟨h1, H⟩ := H
    refine WL.y rfl (Yld.mul rfl rfl h1) ?_
    obtain ⟨h2, H⟩ := H
    refine WL.y rfl (Yld.sub rfl rfl h2) ?_
    refine WL.y rfl (Yld.pure tab_ok rfl) ?_
    refine WL.y rfl (Yld.pure tab_ok rfl) ?_
    obtain ⟨h3, H⟩ := H
    obtain ⟨h4, H⟩ := H
    obtain ⟨h5, H⟩ := H
    obtain ⟨h6, H⟩ := H
    refine WL.midF 19 (fun L' w' => ∃ q1 : Bool, L' = [(48, .bool q1), (0, vs s), (1, vs old), (2, vs by_), (10, .int .i64 n2)] ∧ q1 = ((decide ((1024 : Int) < ((s.length : Int) - (n2 * (old.length : Int))))) || ((decide ((0 : Int) < (by_.length : Int))) && (decide ((((1024 : Int) - ((s.length : Int) - (n2 * (old.length : Int)))) / (by_.length : Int)) < n2)))) ∧ w = w') ?_ (fun hQ => ?_)
    · rintro _ _ ⟨q1, rfl, rfl, rfl⟩
      refine WL.nil (WX.then_normal ?_)
      refine WC.cond rfl (fun b1 => ?_) (fun b1 => ?_)
      · replace H := H.1 (b1)
        refine WC.seq ?_
        refine WC.quiet mixed (by kernel_rfl) ?_
        obtain ⟨vE1, _, hE1⟩ := GOK.get hG 7 1 hS7 rfl rfl
        refine WQ.y rfl (Yld.cell tab_ok (ErrR.cell hE1 rfl) rfl rfl) ?_
        refine WQ.y rfl (Yld.pure tab_ok rfl) ?_
        refine WQ.y rfl (Yld.pure tab_ok rfl) ?_
        refine WQ.nil (WX.then_normal ?_)
        refine WC.ret (WX.then_ret ?_)
        exact WX.ret2 rfl rfl rfl ⟨(gr_refl _ _), ([] : List UInt8), vE1, (Er.e 7), rfl, hE1, H⟩
      · replace H := H.2 (b1)
        refine WC.skip (WX.then_normal ?_)
        refine WC.seq ?_
        refine WC.seq ?_
        refine WC.region ?_
        refine WL.y rfl (Yld.pure tab_ok rfl) ?_
        refine WL.y rfl (Yld.pure tab_ok rfl) ?_
        refine WL.nil (WX.then_normal ?_)
        refine WC.cond rfl (fun b2 => ?_) (fun b2 => ?_)
        · replace H := H.1 (nd_true b2)
          refine WC.seq ?_
          refine WC.region ?_
          refine WL.y rfl (Yld.pure tab_ok rfl) ?_
          refine WL.y rfl (Yld.pure tab_ok rfl) ?_
          refine WL.y rfl (Yld.pure tab_ok rfl) ?_
          refine WL.y rfl (Yld.pure tab_ok rfl) ?_
          refine WL.call rfl rfl (W_strings_Replace hG hS100 H) ?_
          rintro _ w1 ⟨hg1, t8, rfl, H⟩
          have gr1 := hg1
          refine WL.y rfl (Yld.pure tab_ok rfl) ?_
          refine WL.y rfl (Yld.pure tab_ok rfl) ?_
          refine WL.nil (WX.then_normal ?_)
          refine WC.ret (WX.then_ret ?_)
          exact WX.ret2 rfl rfl rfl ⟨gr1, t8, .nilIface, Er.ok, rfl, (ErrR.okR (S := S) (w := w1)), H⟩
        · replace H := H.2 (nd_false b2)
          refine WC.skip (WX.then_normal ?_)
          refine WC.seq ?_
          refine WC.region ?_
          refine WL.alloc rfl zero84 (fun g1 w2 hB1 hg2 hl1 => ?_)
          have gr2 := hg2
          refine WL.nil (WX.then_normal ?_)
          refine WC.seq ?_
          refine WC.seq ?_
          refine WC.region ?_
          refine WL.y rfl (Yld.pure tab_ok rfl) ?_
          refine WL.nil (WX.then_normal ?_)
          refine WC.block ?_
          obtain ⟨I1, mu1, h0_1, HR1⟩ := H
          refine WC.loopF (fun n' L' w' => ∃ (i : Int), ∃ (a_bld : Option Addr), ∃ (b1 : List UInt8), ∃ (A_b1 : Option Addr), ∃ (c_b1 : Nat), ∃ (n_b1 : Nat), n' = mu1 i b1 ∧ L' = [(0, vs s), (2, vs by_), (10, .int .i64 n2), (11, .pointer (some ⟨g1, 0, none⟩)), (12, .int .i64 i)] ∧ I1 i b1 ∧ (a_bld = none ∨ a_bld = some ⟨g1, 0, none⟩) ∧ n_b1 = b1.length ∧ w.grownBy w' none ∧ Bl w' g1 84 [.pointer a_bld, .slice A_b1 n_b1 c_b1] ∧ Own vb w' w.heap.size 5 A_b1 c_b1 b1 ∧ Dj (some g1) (blk A_b1)) _ _ ⟨(0 : Int), none, [], none, 0, 0, rfl, rfl, h0_1, (Or.inl rfl), rfl, gr2, hB1, (Own.nil vb w2 w.heap.size 5), Dj.nr⟩ (by repeat (first | exact Sub.nil | refine Sub.cons rfl ?_)) ?_
          clear h0_1
          rintro _ _ w3 ⟨i, a_bld, b1, A_b1, c_b1, n_b1, rfl, rfl, hI1, ha_bld, rfl, gr3, k1, k2, dj1⟩
          have H := HR1 i b1 hI1
          refine WC.seq ?_
          refine WC.seq ?_
          refine WC.region ?_
          refine WL.y rfl (Yld.pure tab_ok rfl) ?_
          refine WL.y rfl (Yld.pure tab_ok rfl) ?_
          refine WL.y rfl (Yld.pure tab_ok rfl) ?_
          refine WL.y rfl (Yld.pure tab_ok rfl) ?_
          refine WL.nil (WX.then_normal ?_)
          refine WC.cond rfl (fun b3 => ?_) (fun b3 => ?_)
          · replace H := H.1 (of_decide_eq_true b3)
            refine WC.skip (WX.then_normal ?_)
            refine WC.seq ?_
            obtain ⟨J2, H, hJ2⟩ := H
            refine WC.midF (fun L' w' => ∃ (a_bld2 : Option Addr), ∃ (b12 : List UInt8), ∃ (A_b12 : Option Addr), ∃ (c_b12 : Nat), ∃ (n_b12 : Nat), L' = [(0, vs s), (2, vs by_), (10, .int .i64 n2), (11, .pointer (some ⟨g1, 0, none⟩)), (12, .int .i64 i)] ∧ J2 b12 ∧ (a_bld2 = none ∨ a_bld2 = some ⟨g1, 0, none⟩) ∧ n_b12 = b12.length ∧ w.grownBy w' none ∧ Bl w' g1 84 [.pointer a_bld2, .slice A_b12 n_b12 c_b12] ∧ Own vb w' w.heap.size 5 A_b12 c_b12 b12 ∧ Dj (some g1) (blk A_b12)) ?_ (fun hQ => ?_)
            · clear H
              rintro _ w4 ⟨a_bld2, b12, A_b12, c_b12, n_b12, rfl, H, ha_bld2, rfl, gr4, k3, k4, dj2⟩
              replace H := hJ2 b12 H
              refine WX.then_normal ?_
              refine WC.region ?_
              refine WL.y rfl (Yld.pure tab_ok rfl) ?_
              obtain ⟨h7, H⟩ := H
              refine WL.y rfl (Yld.add rfl rfl h7) ?_
              refine WL.y rfl (Yld.pure tab_ok rfl) ?_
              refine WL.nil ?_
              exact WX.roundF _ ⟨i + (1 : Int), a_bld2, b12, A_b12, c_b12, b12.length, rfl, rfl, H.1, ha_bld2, rfl, gr4, k3, k4, dj2⟩ (by repeat (first | exact Sub.nil | refine Sub.cons rfl ?_)) H.2
            · clear hJ2
              refine WC.block ?_
              refine WC.seq ?_
              obtain ⟨J3, H, hJ3⟩ := H
              refine WC.midF (fun L' w' => ∃ (a_bld3 : Option Addr), ∃ (b13 : List UInt8), ∃ (A_b13 : Option Addr), ∃ (c_b13 : Nat), ∃ (n_b13 : Nat), L' = [(0, vs s), (2, vs by_), (10, .int .i64 n2), (11, .pointer (some ⟨g1, 0, none⟩)), (12, .int .i64 i)] ∧ J3 b13 ∧ (a_bld3 = none ∨ a_bld3 = some ⟨g1, 0, none⟩) ∧ n_b13 = b13.length ∧ w.grownBy w' none ∧ Bl w' g1 84 [.pointer a_bld3, .slice A_b13 n_b13 c_b13] ∧ Own vb w' w.heap.size 5 A_b13 c_b13 b13 ∧ Dj (some g1) (blk A_b13)) ?_ (fun hQ => ?_)
              · clear H
                rintro _ w5 ⟨a_bld3, b13, A_b13, c_b13, n_b13, rfl, H, ha_bld3, rfl, gr5, k5, k6, dj3⟩
                replace H := hJ3 b13 H
                refine WX.then_normal ?_
                refine WC.seq ?_
                refine WC.region ?_
                refine WL.y rfl (Yld.pure tab_ok rfl) ?_
                refine WL.y rfl (Yld.pure tab_ok rfl) ?_
                refine WL.y rfl (Yld.pure tab_ok rfl) ?_
                refine WL.y rfl (Yld.pure tab_ok rfl) ?_
                refine WL.nil (WX.then_normal ?_)
                refine WC.cond rfl (fun b4 => ?_) (fun b4 => ?_)
                · replace H := H.1 (of_decide_eq_true b4)
                  refine WC.region ?_
                  refine WL.y rfl (Yld.pure tab_ok rfl) ?_
                  refine WL.y rfl (Yld.pure tab_ok rfl) ?_
                  obtain ⟨h8, H⟩ := H
                  refine WL.y rfl (Yld.sidx tab_ok rfl rfl rfl h8.1 h8.2) ?_
                  obtain ⟨h9, H⟩ := H
                  refine WL.call rfl rfl (bwb_fn k5 ha_bld3 rfl rfl rfl (liesB_of (by kernel_rfl)) k6 dj3 h9 (size_le gr5)) ?_
                  rintro _ w6 ⟨rfl, A_buf, c_buf, hB2, hO1, hgl1, hi1, dj4⟩
                  have hB3 : Bl w6 g1 84 [.pointer (some ⟨g1, 0, none⟩), .slice A_buf ((b13 ++ [s.getD i.toNat 0]).length) c_buf] := hB2
                  have gr6 := gr_modL gr5 hgl1 (apC (Ge.le (Ge.box hl1) (Nat.le_refl _)) (apC k6.ge' apN))
                  refine WL.nil (WX.block_normal ?_)
                  exact WX.weaken (by repeat (first | exact Sub.nil | refine Sub.cons rfl ?_)) (hQ _ _ ⟨(some ⟨g1, 0, none⟩), b13 ++ [s.getD i.toNat 0], A_buf, c_buf, (b13 ++ [s.getD i.toNat 0]).length, rfl, H, (Or.inr rfl), rfl, gr6, hB3, hO1, dj4⟩)
                · replace H := H.2 (of_decide_eq_false b4)
                  refine WC.skip (WX.block_normal ?_)
                  exact WX.weaken (by repeat (first | exact Sub.nil | refine Sub.cons rfl ?_)) (hQ _ _ ⟨a_bld3, b13, A_b13, c_b13, b13.length, rfl, H, ha_bld3, rfl, gr5, k5, k6, dj3⟩)
              · clear hJ3
                refine WC.seq ?_
                refine WC.region ?_
                refine WL.y rfl (Yld.pure tab_ok rfl) ?_
                refine WL.y rfl (Yld.pure tab_ok rfl) ?_
                refine WL.y rfl (Yld.pure tab_ok rfl) ?_
                refine WL.nil (WX.then_normal ?_)
                refine WC.cond rfl (fun b5 => ?_) (fun b5 => ?_)
                · replace H := H.1 (of_decide_eq_true b5)
                  refine WC.region ?_
                  refine WL.y rfl (Yld.pure tab_ok rfl) ?_
                  obtain ⟨h10, H⟩ := H
                  refine WL.call rfl rfl (bws_fn k1 ha_bld rfl rfl rfl (liesB_of (by kernel_rfl)) k2 dj1 h10 (size_le gr3)) ?_
                  rintro _ w7 ⟨rfl, A_buf2, c_buf2, hB4, hO2, hgl2, hi2, dj5⟩
                  have hB5 : Bl w7 g1 84 [.pointer (some ⟨g1, 0, none⟩), .slice A_buf2 ((b1 ++ by_).length) c_buf2] := hB4
                  have gr7 := gr_modL gr3 hgl2 (apC (Ge.le (Ge.box hl1) (Nat.le_refl _)) (apC k2.ge' apN))
                  refine WL.nil ?_
                  exact WX.weaken (by repeat (first | exact Sub.nil | refine Sub.cons rfl ?_)) (hQ _ _ ⟨(some ⟨g1, 0, none⟩), b1 ++ by_, A_buf2, c_buf2, (b1 ++ by_).length, rfl, H, (Or.inr rfl), rfl, gr7, hB5, hO2, dj5⟩)
                · replace H := H.2 (of_decide_eq_false b5)
                  refine WC.skip ?_
                  exact WX.weaken (by repeat (first | exact Sub.nil | refine Sub.cons rfl ?_)) (hQ _ _ ⟨a_bld, b1, A_b1, c_b1, b1.length, rfl, H, ha_bld, rfl, gr3, k1, k2, dj1⟩)
          · replace H := H.2 (of_decide_eq_false b3)
            refine WC.exit (WX.then_exit (WX.then_exit (WX.block_same (WX.then_normal ?_))))
            refine WC.seq ?_
            refine WC.region ?_
            refine WL.call rfl rfl (bstr_fn k1 rfl rfl k2 dj1) ?_
            rintro _ w8 ⟨rfl, hB6, hgl3⟩
            have gr8 := gr_modL gr3 hgl3 (apC k2.ge' apN)
            refine WL.y rfl (Yld.pure tab_ok rfl) ?_
            refine WL.y rfl (Yld.pure tab_ok rfl) ?_
            refine WL.nil (WX.then_normal ?_)
            refine WC.ret ?_
            exact WX.ret2 rfl rfl rfl ⟨gr8, b1, .nilIface, Er.ok, rfl, (ErrR.okR (S := S) (w := w8)), H⟩
    · clear H
      rcases Bool.eq_false_or_eq_true (decide ((1024 : Int) < ((s.length : Int) - (n2 * (old.length : Int))))) with b6 | b6
      · refine WL.gno rfl rfl (okb b6) rfl ?_
        refine WL.gno rfl rfl (okb b6) rfl ?_
        refine WL.gno rfl rfl (okb b6) rfl ?_
        refine WL.gno rfl rfl (okb b6) rfl ?_
        refine WL.gun rfl rfl rfl rfl ?_
        refine WL.gun rfl rfl rfl rfl ?_
        refine WL.gun rfl rfl rfl rfl ?_
        refine WL.gun rfl rfl rfl rfl ?_
        refine WL.gun rfl rfl rfl rfl ?_
        refine WL.gun rfl rfl rfl rfl ?_
        refine WL.gun rfl rfl rfl rfl ?_
        refine WL.gun rfl rfl rfl rfl ?_
        refine WL.gun rfl rfl rfl rfl ?_
        refine WL.gun rfl rfl rfl rfl ?_
        refine WL.gun rfl rfl rfl rfl ?_
        refine WL.gun rfl rfl rfl rfl ?_
        refine WL.gun rfl rfl rfl rfl ?_
        refine WL.gno rfl rfl (okb b6) rfl ?_
        refine WL.y rfl (Yld.pickT (okb b6) rfl) ?_
        exact WL.weaken (by repeat (first | exact Sub.nil | refine Sub.cons rfl ?_)) (hQ _ _ ⟨true, rfl, by rw [b6] <;> rfl, rfl⟩)
      · refine WL.gyes rfl rfl (okb b6) rfl (Yld.pure tab_ok rfl) ?_
        refine WL.gyes rfl rfl (okb b6) rfl (Yld.pure tab_ok rfl) ?_
        refine WL.gyes rfl rfl (okb b6) rfl (Yld.pure tab_ok rfl) ?_
        refine WL.gyes rfl rfl (okb b6) rfl (Yld.pure tab_ok rfl) ?_
        rcases Bool.eq_false_or_eq_true (decide ((0 : Int) < (by_.length : Int))) with b7 | b7
        · refine WL.gyes rfl rfl (okb b7) rfl (Yld.pure tab_ok rfl) ?_
          refine WL.gyes rfl rfl (okb b7) rfl (Yld.pure tab_ok rfl) ?_
          refine WL.gyes rfl rfl (okb b7) rfl (Yld.pure tab_ok rfl) ?_
          refine WL.gyes rfl rfl (okb b7) rfl (Yld.pure tab_ok rfl) ?_
          refine WL.gyes rfl rfl (okb b7) rfl (Yld.pure tab_ok rfl) ?_
          refine WL.gyes rfl rfl (okb b7) rfl (Yld.pure tab_ok rfl) ?_
          refine WL.gyes rfl rfl (okb b7) rfl (Yld.mul rfl rfl (h3 b6 b7)) ?_
          refine WL.gyes rfl rfl (okb b7) rfl (Yld.sub rfl rfl (h4 b6 b7)) ?_
          refine WL.gyes rfl rfl (okb b7) rfl (Yld.sub rfl rfl (h5 b6 b7)) ?_
          refine WL.gyes rfl rfl (okb b7) rfl (Yld.pure tab_ok rfl) ?_
          refine WL.gyes rfl rfl (okb b7) rfl (Yld.pure tab_ok rfl) ?_
          refine WL.gyes rfl rfl (okb b7) rfl (Yld.quo rfl rfl (h6 b6 b7).1 (h6 b6 b7).2.1 (h6 b6 b7).2.2) ?_
          refine WL.gyes rfl rfl (okb b7) rfl (Yld.pure tab_ok rfl) ?_
          refine WL.gyes rfl rfl (okb b6) rfl (Yld.pickT (okb b7) rfl) ?_
          refine WL.y rfl (Yld.pickF (okb b6) rfl) ?_
          exact WL.weaken (by repeat (first | exact Sub.nil | refine Sub.cons rfl ?_)) (hQ _ _ ⟨decide ((((1024 : Int) - ((s.length : Int) - (n2 * (old.length : Int)))) / (by_.length : Int)) < n2), rfl, by rw [b6, b7] <;> rfl, rfl⟩)
        · refine WL.gno rfl rfl (okb b7) rfl ?_
          refine WL.gno rfl rfl (okb b7) rfl ?_
          refine WL.gno rfl rfl (okb b7) rfl ?_
          refine WL.gno rfl rfl (okb b7) rfl ?_
          refine WL.gno rfl rfl (okb b7) rfl ?_
          refine WL.gno rfl rfl (okb b7) rfl ?_
          refine WL.gno rfl rfl (okb b7) rfl ?_
          refine WL.gno rfl rfl (okb b7) rfl ?_
          refine WL.gno rfl rfl (okb b7) rfl ?_
          refine WL.gno rfl rfl (okb b7) rfl ?_
          refine WL.gno rfl rfl (okb b7) rfl ?_
          refine WL.gno rfl rfl (okb b7) rfl ?_
          refine WL.gno rfl rfl (okb b7) rfl ?_
          refine WL.gyes rfl rfl (okb b6) rfl (Yld.pickF (okb b7) rfl) ?_
          refine WL.y rfl (Yld.pickF (okb b6) rfl) ?_
          exact WL.weaken (by repeat (first | exact Sub.nil | refine Sub.cons rfl ?_)) (hQ _ _ ⟨false, rfl, by rw [b6, b7] <;> rfl, rfl⟩)
  · clear hJ1
    refine WC.seq ?_
    refine WC.region ?_
    refine WL.y rfl (Yld.pure tab_ok rfl) ?_
    refine WL.y rfl (Yld.pure tab_ok rfl) ?_
    refine WL.nil (WX.then_normal ?_)
    refine WC.cond rfl (fun b8 => ?_) (fun b8 => ?_)
    · replace H := H.1 (of_decide_eq_true b8)
      refine WC.region ?_
      refine WL.y rfl (Yld.pure tab_ok rfl) ?_
      refine WL.y rfl (Yld.pure tab_ok rfl) ?_
      refine WL.y rfl (Yld.min2 rfl rfl) ?_
      refine WL.y rfl (Yld.pure tab_ok rfl) ?_
      refine WL.nil ?_
      exact WX.weaken (by repeat (first | exact Sub.nil | refine Sub.cons rfl ?_)) (hQ _ _ ⟨(if most < n then most else n), rfl, H, rfl⟩)
    · replace H := H.2 (of_decide_eq_false b8)
      refine WC.skip ?_
      exact WX.weaken (by repeat (first | exact Sub.nil | refine Sub.cons rfl ?_)) (hQ _ _ ⟨n, rfl, H, rfl⟩)

set_option maxHeartbeats 8000000 in
theorem W_str_bound {w : World} {n : Int} {i : Int} {K : Int → Prop} (H : M_str_bound n i K) : Fn Tryd.prog 53 ⟨[.int .i64 n, .int .i64 i]⟩ w (fun v w' => w = w' ∧ ∃ (r : Int), v = .int .i64 r ∧ K r) := by
  unfold M_str_bound at H
  refine Fn.enter (by kernel_rfl) Tryd.func53 rfl Tryd.ntmps53 rfl ?_
  refine WC.seq ?_
  refine WC.region ?_
  refine WL.y rfl (Yld.pure tab_ok rfl) ?_
  refine WL.nil (WX.then_normal ?_)
  refine WC.seq ?_
  obtain ⟨J1, H, hJ1⟩ := H
  refine WC.midF (fun L' w' => ∃ (i2 : Int), L' = [(0, .int .i64 n), (1, .int .i64 i2)] ∧ J1 i2 ∧ w = w') ?_ (fun hQ => ?_)
  · clear H
    rintro _ _ ⟨i2, rfl, H, rfl⟩
    replace H := hJ1 i2 H
    refine WX.then_normal ?_
    refine WC.seq ?_
    refine WC.region ?_
    refine WL.y rfl (Yld.pure tab_ok rfl) ?_
    refine WL.y rfl (Yld.max2 rfl rfl) ?_
    refine WL.y rfl (Yld.pure tab_ok rfl) ?_
    refine WL.y rfl (Yld.min2 rfl rfl) ?_
    refine WL.y rfl (Yld.pure tab_ok rfl) ?_
    refine WL.nil (WX.then_normal ?_)
    refine WC.ret ?_
    exact WX.ret1 rfl rfl ⟨rfl, (if n < (if i2 < (0 : Int) then (0 : Int) else i2) then n else (if i2 < (0 : Int) then (0 : Int) else i2)), rfl, H⟩
  · clear hJ1
    refine WC.seq ?_
    refine WC.region ?_
    refine WL.y rfl (Yld.pure tab_ok rfl) ?_
    refine WL.y rfl (Yld.pure tab_ok rfl) ?_
    refine WL.nil (WX.then_normal ?_)
    refine WC.cond rfl (fun b1 => ?_) (fun b1 => ?_)
    · replace H := H.1 (of_decide_eq_true b1)
      refine WC.region ?_
      refine WL.y rfl (Yld.pure tab_ok rfl) ?_
      refine WL.y rfl (Yld.pure tab_ok rfl) ?_
      obtain ⟨h1, H⟩ := H
      refine WL.y rfl (Yld.add rfl rfl h1) ?_
      refine WL.y rfl (Yld.pure tab_ok rfl) ?_
      refine WL.nil ?_
      exact WX.weaken (by repeat (first | exact Sub.nil | refine Sub.cons rfl ?_)) (hQ _ _ ⟨i + n, rfl, H, rfl⟩)
    · replace H := H.2 (of_decide_eq_false b1)
      refine WC.skip ?_
      exact WX.weaken (by repeat (first | exact Sub.nil | refine Sub.cons rfl ?_)) (hQ _ _ ⟨i, rfl, H, rfl⟩)

set_option maxHeartbeats 8000000 in
theorem W_str_Cut {w : World} {n : Int} {from_ : Int} {to_ : Int} {has : Bool} {until_ : Bool} {K : Int → Int → Prop} (H : M_str_Cut n from_ to_ has until_ K) : Fn Tryd.prog 18 ⟨[.int .i64 n, .int .i64 from_, .int .i64 to_, .bool has, .bool until_]⟩ w (fun v w' => w = w' ∧ ∃ (r0 : Int), ∃ (r1 : Int), v = .tuple #[.int .i64 r0, .int .i64 r1] ∧ K r0 r1) := by
  unfold M_str_Cut at H
  refine Fn.enter (by kernel_rfl) Tryd.func18 rfl Tryd.ntmps18 rfl ?_
  refine WC.seq ?_
  refine WC.region ?_
  refine WL.y rfl (Yld.pure tab_ok rfl) ?_
  refine WL.y rfl (Yld.pure tab_ok rfl) ?_
  refine WL.nil (WX.then_normal ?_)
  refine WC.seq ?_
  refine WC.region ?_
  refine WL.y rfl (Yld.pure tab_ok rfl) ?_
  refine WL.y rfl (Yld.max2 rfl rfl) ?_
  refine WL.y rfl (Yld.pure tab_ok rfl) ?_
  refine WL.nil (WX.then_normal ?_)
  refine WC.seq ?_
  obtain ⟨J1, H, hJ1⟩ := H
  refine WC.midF (fun L' w' => ∃ (from_2 : Int), L' = [(0, .int .i64 (if n < (0 : Int) then (0 : Int) else n)), (1, .int .i64 from_2), (2, .int .i64 to_), (4, .bool until_)] ∧ J1 from_2 ∧ w = w') ?_ (fun hQ => ?_)
  · clear H
    rintro _ _ ⟨from_2, rfl, H, rfl⟩
    replace H := hJ1 from_2 H
    refine WX.then_normal ?_
    refine WC.seq ?_
    obtain ⟨J2, H, hJ2⟩ := H
    refine WC.midF (fun L' w' => ∃ (to_2 : Int), L' = [(0, .int .i64 (if n < (0 : Int) then (0 : Int) else n)), (1, .int .i64 from_2), (2, .int .i64 to_2)] ∧ J2 to_2 ∧ w = w') ?_ (fun hQ => ?_)
    · clear H
      rintro _ _ ⟨to_2, rfl, H, rfl⟩
      replace H := hJ2 to_2 H
      refine WX.then_normal ?_
      refine WC.seq ?_
      refine WC.region ?_
      refine WL.y rfl (Yld.pure tab_ok rfl) ?_
      refine WL.y rfl (Yld.pure tab_ok rfl) ?_
      refine WL.call rfl rfl (W_str_bound H) ?_
      rintro _ _ ⟨rfl, from_3, rfl, H⟩
      refine WL.y rfl (Yld.pure tab_ok rfl) ?_
      refine WL.y rfl (Yld.pure tab_ok rfl) ?_
      refine WL.call rfl rfl (W_str_bound H) ?_
      rintro _ _ ⟨rfl, to_3, rfl, H⟩
      refine WL.y rfl (Yld.pure tab_ok rfl) ?_
      refine WL.y rfl (Yld.pure tab_ok rfl) ?_
      refine WL.nil (WX.then_normal ?_)
      refine WC.seq ?_
      refine WC.region ?_
      refine WL.y rfl (Yld.pure tab_ok rfl) ?_
      refine WL.y rfl (Yld.pure tab_ok rfl) ?_
      refine WL.y rfl (Yld.pure tab_ok rfl) ?_
      refine WL.y rfl (Yld.max2 rfl rfl) ?_
      refine WL.y rfl (Yld.pure tab_ok rfl) ?_
      refine WL.y rfl (Yld.pure tab_ok rfl) ?_
      refine WL.nil (WX.then_normal ?_)
      refine WC.ret ?_
      exact WX.ret2 rfl rfl rfl ⟨rfl, from_3, (if from_3 < to_3 then to_3 else from_3), rfl, H⟩
    · clear hJ2
      refine WC.seq ?_
      refine WC.region ?_
      refine WL.y rfl (Yld.pure tab_ok rfl) ?_
      refine WL.y rfl (Yld.pure tab_ok rfl) ?_
      refine WL.nil (WX.then_normal ?_)
      refine WC.cond rfl (fun b1 => ?_) (fun b1 => ?_)
      · replace H := H.1 (b1)
        refine WC.region ?_
        refine WL.y rfl (Yld.pure tab_ok rfl) ?_
        refine WL.y rfl (Yld.pure tab_ok rfl) ?_
        refine WL.nil ?_
        exact WX.weaken (by repeat (first | exact Sub.nil | refine Sub.cons rfl ?_)) (hQ _ _ ⟨(if n < (0 : Int) then (0 : Int) else n), rfl, H, rfl⟩)
      · replace H := H.2 (b1)
        refine WC.skip ?_
        exact WX.weaken (by repeat (first | exact Sub.nil | refine Sub.cons rfl ?_)) (hQ _ _ ⟨to_, rfl, H, rfl⟩)
  · clear hJ1
    refine WC.seq ?_
    refine WC.region ?_
    refine WL.y rfl (Yld.pure tab_ok rfl) ?_
    refine WL.y rfl (Yld.pure tab_ok rfl) ?_
    refine WL.nil (WX.then_normal ?_)
    refine WC.cond rfl (fun b2 => ?_) (fun b2 => ?_)
    · replace H := H.1 (b2)
      refine WC.region ?_
      refine WL.y rfl (Yld.pure tab_ok rfl) ?_
      refine WL.nil ?_
      exact WX.weaken (by repeat (first | exact Sub.nil | refine Sub.cons rfl ?_)) (hQ _ _ ⟨(0 : Int), rfl, H, rfl⟩)
    · replace H := H.2 (b2)
      refine WC.skip ?_
      exact WX.weaken (by repeat (first | exact Sub.nil | refine Sub.cons rfl ?_)) (hQ _ _ ⟨from_, rfl, H, rfl⟩)

set_option maxHeartbeats 8000000 in
theorem W_str_Find {S : List Nat} {w : World} {s : List UInt8} {what : List UInt8} {from_ : Int} {to_ : Int} {K : Int → Prop} (hG : GOK S w) (hS100 : 100 ∈ S) (H : M_str_Find s what from_ to_ K) : Fn Tryd.prog 20 ⟨[vs s, vs what, .int .i64 from_, .int .i64 to_]⟩ w (fun v w' => w = w' ∧ ∃ (r : Int), v = .int .i64 r ∧ K r) := by
  unfold M_str_Find at H
  refine Fn.enter (by kernel_rfl) Tryd.func20 rfl Tryd.ntmps20 rfl ?_
  refine WC.seq ?_
  refine WC.region ?_
  refine WL.y rfl (Yld.pure tab_ok rfl) ?_
  refine WL.nil (WX.then_normal ?_)
  refine WC.seq ?_
  refine WC.region ?_
  refine WL.y rfl (Yld.pure tab_ok rfl) ?_
  refine WL.y rfl (Yld.pure tab_ok rfl) ?_
  refine WL.y rfl (Yld.pure tab_ok rfl) ?_
  refine WL.y rfl (Yld.pure tab_ok rfl) ?_
  refine WL.call rfl rfl (W_str_Cut H) ?_
  rintro _ _ ⟨rfl, t150, t151, rfl, H⟩
  refine WL.y rfl (Yld.pure tab_ok rfl) ?_
  refine WL.y rfl (Yld.pure tab_ok rfl) ?_
  refine WL.y rfl (Yld.pure tab_ok rfl) ?_
  refine WL.y rfl (Yld.pure tab_ok rfl) ?_
  refine WL.y rfl (Yld.pure tab_ok rfl) ?_
  refine WL.nil (WX.then_normal ?_)
  refine WC.seq ?_
  refine WC.region ?_
  refine WL.y rfl (Yld.pure tab_ok rfl) ?_
  refine WL.y rfl (Yld.pure tab_ok rfl) ?_
  refine WL.y rfl (Yld.pure tab_ok rfl) ?_
  obtain ⟨h1, H⟩ := H
  refine WL.y rfl (Yld.scut tab_ok rfl rfl rfl rfl h1.1 h1.2.1 h1.2.2) ?_
  refine WL.y rfl (Yld.pure tab_ok rfl) ?_
  refine WL.call rfl rfl (W_strings_Index hG hS100 H) ?_
  rintro _ _ ⟨rfl, k, rfl, H⟩
  refine WL.y rfl (Yld.pure tab_ok rfl) ?_
  refine WL.nil (WX.then_normal ?_)
  refine WC.seq ?_
  refine WC.seq ?_
  refine WC.region ?_
  refine WL.y rfl (Yld.pure tab_ok rfl) ?_
  refine WL.y rfl (Yld.pure tab_ok rfl) ?_
  refine WL.nil (WX.then_normal ?_)
  refine WC.cond rfl (fun b1 => ?_) (fun b1 => ?_)
  · replace H := H.1 (of_decide_eq_true b1)
    refine WC.seq ?_
    refine WC.region ?_
    refine WL.y rfl (Yld.pure tab_ok rfl) ?_
    refine WL.nil (WX.then_normal ?_)
    refine WC.ret (WX.then_ret ?_)
    exact WX.ret1 rfl rfl ⟨rfl, (-1 : Int), rfl, H⟩
  · replace H := H.2 (of_decide_eq_false b1)
    refine WC.skip (WX.then_normal ?_)
    refine WC.seq ?_
    refine WC.region ?_
    refine WL.y rfl (Yld.pure tab_ok rfl) ?_
    refine WL.y rfl (Yld.pure tab_ok rfl) ?_
    obtain ⟨h2, H⟩ := H
    refine WL.y rfl (Yld.add rfl rfl h2) ?_
    refine WL.y rfl (Yld.pure tab_ok rfl) ?_
    refine WL.nil (WX.then_normal ?_)
    refine WC.ret ?_
    exact WX.ret1 rfl rfl ⟨rfl, t150 + k, rfl, H⟩

set_option maxHeartbeats 8000000 in
theorem W_str_Strip {w : World} {s : List UInt8} {bytes : List UInt8} {left : Bool} {right : Bool} {K : (List UInt8) → Prop} (H : M_str_Strip s bytes left right K) : Fn Tryd.prog 19 ⟨[vs s, vs bytes, .bool left, .bool right]⟩ w (fun v w' => w = w' ∧ ∃ (r : List UInt8), v = vs r ∧ K r) := by
  unfold M_str_Strip at H
  refine Fn.enter (by kernel_rfl) Tryd.func19 rfl Tryd.ntmps19 rfl ?_
  refine WC.seq ?_
  refine WC.region ?_
  refine WL.y rfl (Yld.pure tab_ok rfl) ?_
  refine WL.nil (WX.then_normal ?_)
  refine WC.seq ?_
  obtain ⟨J1, H, hJ1⟩ := H
  refine WC.midF (fun L' w' => ∃ (bytes2 : List UInt8), L' = [(0, vs s), (1, vs bytes2), (2, .bool left), (3, .bool right)] ∧ J1 bytes2 ∧ w = w') ?_ (fun hQ => ?_)
  · clear H
    rintro _ _ ⟨bytes2, rfl, H, rfl⟩
    replace H := hJ1 bytes2 H
    refine WX.then_normal ?_
    refine WC.seq ?_
    refine WC.block ?_
    obtain ⟨I1, mu1, h0_1, HR1⟩ := H
    refine WC.loopF (fun n' L' w' => ∃ (s2 : List UInt8), n' = mu1 s2 ∧ L' = [(0, vs s2), (1, vs bytes2), (2, .bool left), (3, .bool right)] ∧ I1 s2 ∧ w = w') _ _ ⟨s, rfl, rfl, h0_1, rfl⟩ (by repeat (first | exact Sub.nil | refine Sub.cons rfl ?_)) ?_
    clear h0_1
    rintro _ _ _ ⟨s2, rfl, rfl, hI1, rfl⟩
    have H := HR1 s2 hI1
    refine WC.seq ?_
    refine WC.seq ?_
    refine WC.region ?_
    refine WL.y rfl (Yld.pure tab_ok rfl) ?_
    refine WL.y rfl (Yld.pure tab_ok rfl) ?_
    refine WL.midF 3 (fun L' w' => ∃ q1 : Bool, L' = [(15, .bool q1), (0, vs s2), (1, vs bytes2), (2, .bool left), (3, .bool right)] ∧ q1 = (left && (!decide (s2 = ([] : List UInt8)))) ∧ w = w') ?_ (fun hQ => ?_)
    · rintro _ _ ⟨q1, rfl, rfl, rfl⟩
      refine WL.y rfl (Yld.pure tab_ok rfl) ?_
      obtain ⟨J2, H, hJ2⟩ := H
      refine WL.midF 6 (fun L' w' => ∃ q2 : Bool, L' = [(22, .bool q2), (0, vs s2), (1, vs bytes2), (2, .bool left), (3, .bool right)] ∧ J2 q2 ∧ w = w') ?_ (fun hQ => ?_)
      · clear H
        rintro _ _ ⟨q2, rfl, H, rfl⟩
        replace H := hJ2 q2 H
        refine WL.nil (WX.then_normal ?_)
        refine WC.cond rfl (fun b1 => ?_) (fun b1 => ?_)
        · replace H := H.1 (b1)
          refine WC.skip (WX.then_normal ?_)
          refine WC.block ?_
          refine WC.region ?_
          refine WL.y rfl (Yld.pure tab_ok rfl) ?_
          obtain ⟨h1, H⟩ := H
          refine WL.y rfl (Yld.scutF tab_ok rfl rfl rfl h1.1 h1.2) ?_
          refine WL.y rfl (Yld.pure tab_ok rfl) ?_
          refine WL.nil (WX.block_normal ?_)
          exact WX.roundF _ ⟨s2.drop 1, rfl, rfl, H.1, rfl⟩ (by repeat (first | exact Sub.nil | refine Sub.cons rfl ?_)) H.2
        · replace H := H.2 (b1)
          refine WC.exit (WX.then_exit (WX.then_exit (WX.block_same (WX.then_normal ?_))))
          refine WC.seq ?_
          refine WC.block ?_
          obtain ⟨I2, mu2, h0_2, HR2⟩ := H
          refine WC.loopF (fun n' L' w' => ∃ (s3 : List UInt8), n' = mu2 s3 ∧ L' = [(0, vs s3), (1, vs bytes2), (3, .bool right)] ∧ I2 s3 ∧ w = w') _ _ ⟨s2, rfl, rfl, h0_2, rfl⟩ (by repeat (first | exact Sub.nil | refine Sub.cons rfl ?_)) ?_
          clear h0_2
          rintro _ _ _ ⟨s3, rfl, rfl, hI2, rfl⟩
          have H := HR2 s3 hI2
          refine WC.seq ?_
          refine WC.seq ?_
          refine WC.region ?_
          refine WL.y rfl (Yld.pure tab_ok rfl) ?_
          refine WL.y rfl (Yld.pure tab_ok rfl) ?_
          refine WL.midF 3 (fun L' w' => ∃ q3 : Bool, L' = [(29, .bool q3), (0, vs s3), (1, vs bytes2), (3, .bool right)] ∧ q3 = (right && (!decide (s3 = ([] : List UInt8)))) ∧ w = w') ?_ (fun hQ => ?_)
          · rintro _ _ ⟨q3, rfl, rfl, rfl⟩
            refine WL.y rfl (Yld.pure tab_ok rfl) ?_
            obtain ⟨J3, H, hJ3⟩ := H
            refine WL.midF 9 (fun L' w' => ∃ q4 : Bool, L' = [(39, .bool q4), (0, vs s3), (1, vs bytes2), (3, .bool right)] ∧ J3 q4 ∧ w = w') ?_ (fun hQ => ?_)
            · clear H
              rintro _ _ ⟨q4, rfl, H, rfl⟩
              replace H := hJ3 q4 H
              refine WL.nil (WX.then_normal ?_)
              refine WC.cond rfl (fun b2 => ?_) (fun b2 => ?_)
              · replace H := H.1 (b2)
                refine WC.skip (WX.then_normal ?_)
                refine WC.block ?_
                refine WC.region ?_
                refine WL.y rfl (Yld.pure tab_ok rfl) ?_
                refine WL.y rfl (Yld.pure tab_ok rfl) ?_
                refine WL.y rfl (Yld.pure tab_ok rfl) ?_
                obtain ⟨h2, H⟩ := H
                refine WL.y rfl (Yld.sub rfl rfl h2) ?_
                obtain ⟨h3, H⟩ := H
                refine WL.y rfl (Yld.scut tab_ok rfl rfl rfl rfl (Int.le_refl 0) h3.1 h3.2) ?_
                refine WL.y rfl (Yld.pure tab_ok rfl) ?_
                refine WL.nil (WX.block_normal ?_)
                exact WX.roundF _ ⟨s3.take ((s3.length : Int) - (1 : Int)).toNat, rfl, rfl, H.1, rfl⟩ (by repeat (first | exact Sub.nil | refine Sub.cons rfl ?_)) H.2
              · replace H := H.2 (b2)
                refine WC.exit (WX.then_exit (WX.then_exit (WX.block_same (WX.then_normal ?_))))
                refine WC.seq ?_
                refine WC.region ?_
                refine WL.y rfl (Yld.pure tab_ok rfl) ?_
                refine WL.y rfl (Yld.pure tab_ok rfl) ?_
                refine WL.nil (WX.then_normal ?_)
                refine WC.ret ?_
                exact WX.ret1 rfl rfl ⟨rfl, s3, rfl, H⟩
            · clear hJ3
              rcases Bool.eq_false_or_eq_true (right && (!decide (s3 = ([] : List UInt8)))) with b3 | b3
              · replace H := H.1 b3
                refine WL.gyes rfl rfl (okb b3) rfl (Yld.pure tab_ok rfl) ?_
                refine WL.gyes rfl rfl (okb b3) rfl (Yld.pure tab_ok rfl) ?_
                refine WL.gyes rfl rfl (okb b3) rfl (Yld.pure tab_ok rfl) ?_
                refine WL.gyes rfl rfl (okb b3) rfl (Yld.pure tab_ok rfl) ?_
                obtain ⟨h4, H⟩ := H
                refine WL.gyes rfl rfl (okb b3) rfl (Yld.sub rfl rfl h4) ?_
                obtain ⟨h5, H⟩ := H
                refine WL.gyes rfl rfl (okb b3) rfl (Yld.sidx tab_ok rfl rfl rfl h5.1 h5.2) ?_
                refine WL.callw (wants_some rfl rfl (okb b3)) rfl rfl (W_strings_IndexByte H) ?_
                rintro _ _ ⟨rfl, t37, rfl, H⟩
                refine WL.gyes rfl rfl (okb b3) rfl (Yld.pure tab_ok rfl) ?_
                refine WL.y rfl (Yld.pickT (okb b3) rfl) ?_
                exact WL.weaken (by repeat (first | exact Sub.nil | refine Sub.cons rfl ?_)) (hQ _ _ ⟨decide ((0 : Int) ≤ t37), rfl, H, rfl⟩)
              · replace H := H.2 b3
                refine WL.gno rfl rfl (okb b3) rfl ?_
                refine WL.gno rfl rfl (okb b3) rfl ?_
                refine WL.gno rfl rfl (okb b3) rfl ?_
                refine WL.gno rfl rfl (okb b3) rfl ?_
                refine WL.gno rfl rfl (okb b3) rfl ?_
                refine WL.gno rfl rfl (okb b3) rfl ?_
                refine WL.gno rfl rfl (okb b3) rfl ?_
                refine WL.gno rfl rfl (okb b3) rfl ?_
                refine WL.y rfl (Yld.pickF (okb b3) rfl) ?_
                exact WL.weaken (by repeat (first | exact Sub.nil | refine Sub.cons rfl ?_)) (hQ _ _ ⟨false, rfl, H, rfl⟩)
          · clear H
            rcases Bool.eq_false_or_eq_true (right) with b4 | b4
            · refine WL.gyes rfl rfl (okb b4) rfl (Yld.pure tab_ok rfl) ?_
              refine WL.gyes rfl rfl (okb b4) rfl (Yld.pure tab_ok rfl) ?_
              refine WL.y rfl (Yld.pickT (okb b4) rfl) ?_
              exact WL.weaken (by repeat (first | exact Sub.nil | refine Sub.cons rfl ?_)) (hQ _ _ ⟨!decide (s3 = ([] : List UInt8)), rfl, by rw [b4] <;> rfl, rfl⟩)
            · refine WL.gno rfl rfl (okb b4) rfl ?_
              refine WL.gno rfl rfl (okb b4) rfl ?_
              refine WL.y rfl (Yld.pickF (okb b4) rfl) ?_
              exact WL.weaken (by repeat (first | exact Sub.nil | refine Sub.cons rfl ?_)) (hQ _ _ ⟨false, rfl, by rw [b4] <;> rfl, rfl⟩)
      · clear hJ2
        rcases Bool.eq_false_or_eq_true (left && (!decide (s2 = ([] : List UInt8)))) with b5 | b5
        · replace H := H.1 b5
          refine WL.gyes rfl rfl (okb b5) rfl (Yld.pure tab_ok rfl) ?_
          refine WL.gyes rfl rfl (okb b5) rfl (Yld.pure tab_ok rfl) ?_
          obtain ⟨h6, H⟩ := H
          refine WL.gyes rfl rfl (okb b5) rfl (Yld.sidx tab_ok rfl rfl rfl h6.1 h6.2) ?_
          refine WL.callw (wants_some rfl rfl (okb b5)) rfl rfl (W_strings_IndexByte H) ?_
          rintro _ _ ⟨rfl, t20, rfl, H⟩
          refine WL.gyes rfl rfl (okb b5) rfl (Yld.pure tab_ok rfl) ?_
          refine WL.y rfl (Yld.pickT (okb b5) rfl) ?_
          exact WL.weaken (by repeat (first | exact Sub.nil | refine Sub.cons rfl ?_)) (hQ _ _ ⟨decide ((0 : Int) ≤ t20), rfl, H, rfl⟩)
        · replace H := H.2 b5
          refine WL.gno rfl rfl (okb b5) rfl ?_
          refine WL.gno rfl rfl (okb b5) rfl ?_
          refine WL.gno rfl rfl (okb b5) rfl ?_
          refine WL.gno rfl rfl (okb b5) rfl ?_
          refine WL.gno rfl rfl (okb b5) rfl ?_
          refine WL.y rfl (Yld.pickF (okb b5) rfl) ?_
          exact WL.weaken (by repeat (first | exact Sub.nil | refine Sub.cons rfl ?_)) (hQ _ _ ⟨false, rfl, H, rfl⟩)
    · clear H
      rcases Bool.eq_false_or_eq_true (left) with b6 | b6
      · refine WL.gyes rfl rfl (okb b6) rfl (Yld.pure tab_ok rfl) ?_
        refine WL.gyes rfl rfl (okb b6) rfl (Yld.pure tab_ok rfl) ?_
        refine WL.y rfl (Yld.pickT (okb b6) rfl) ?_
        exact WL.weaken (by repeat (first | exact Sub.nil | refine Sub.cons rfl ?_)) (hQ _ _ ⟨!decide (s2 = ([] : List UInt8)), rfl, by rw [b6] <;> rfl, rfl⟩)
      · refine WL.gno rfl rfl (okb b6) rfl ?_
        refine WL.gno rfl rfl (okb b6) rfl ?_
        refine WL.y rfl (Yld.pickF (okb b6) rfl) ?_
        exact WL.weaken (by repeat (first | exact Sub.nil | refine Sub.cons rfl ?_)) (hQ _ _ ⟨false, rfl, by rw [b6] <;> rfl, rfl⟩)
  · clear hJ1
    refine WC.seq ?_
    refine WC.region ?_
    refine WL.y rfl (Yld.pure tab_ok rfl) ?_
    refine WL.y rfl (Yld.pure tab_ok rfl) ?_
    refine WL.nil (WX.then_normal ?_)
    refine WC.cond rfl (fun b7 => ?_) (fun b7 => ?_)
    · replace H := H.1 (of_decide_eq_true b7)
      refine WC.region ?_
      refine WL.y rfl (Yld.pure tab_ok rfl) ?_
      refine WL.nil ?_
      exact WX.weaken (by repeat (first | exact Sub.nil | refine Sub.cons rfl ?_)) (hQ _ _ ⟨([32, 9, 10, 13, 11, 12] : List UInt8), rfl, H, rfl⟩)
    · replace H := H.2 (of_decide_eq_false b7)
      refine WC.skip ?_
      exact WX.weaken (by repeat (first | exact Sub.nil | refine Sub.cons rfl ?_)) (hQ _ _ ⟨bytes, rfl, H, rfl⟩)

set_option maxHeartbeats 8000000 in
theorem W_str_turned {w : World} {s : List UInt8} {first : Int} {by_ : Int} {K : (List UInt8) → Prop} (H : M_str_turned s first by_ K) : Fn Tryd.prog 56 ⟨[vs s, .int .u8 first, .int .i64 by_]⟩ w (fun v w' => w.grownBy w' none ∧ ∃ (r : List UInt8), v = vs r ∧ K r) := by
  unfold M_str_turned at H
  refine Fn.enter (by kernel_rfl) Tryd.func56 rfl Tryd.ntmps56 rfl ?_
  refine WC.seq ?_
  refine WC.region ?_
  refine WL.y rfl (Yld.pure tab_ok rfl) ?_
  refine WL.nil (WX.then_normal ?_)
  refine WC.seq ?_
  refine WC.region ?_
  refine WL.y rfl (Yld.pure tab_ok rfl) ?_
  obtain ⟨h1, H⟩ := H
  refine WL.s2bM tab_ok rfl rfl rfl rfl rfl h1 (Nat.le_refl _) (fun A_b c_b w1 hR1 hg1 hge1 => ?_)
  have gr1 := hg1
  refine WL.y rfl (Yld.pure tab_ok rfl) ?_
  refine WL.nil (WX.then_normal ?_)
  refine WC.seq ?_
  refine WC.seq ?_
  refine WC.region ?_
  refine WL.y rfl (Yld.pure tab_ok rfl) ?_
  refine WL.y rfl (Yld.pure tab_ok rfl) ?_
  refine WL.y rfl (Yld.pure tab_ok rfl) ?_
  refine WL.nil (WX.then_normal ?_)
  refine WC.block ?_
  obtain ⟨I1, mu1, h0_1, HR1⟩ := H
  refine WC.loopF (fun n' L' w' => ∃ (t14 : Int), ∃ (b : List UInt8), n' = mu1 t14 b ∧ L' = [(1, .int .u8 first), (2, .int .i64 by_), (7, .slice A_b s.length c_b), (12, .slice A_b s.length c_b), (13, .int .i64 (s.length : Int)), (14, .int .i64 t14)] ∧ I1 t14 b ∧ s.length = b.length ∧ w.grownBy w' none ∧ OwnM vb w' w.heap.size 5 A_b c_b b) _ _ ⟨(0 : Int), s, rfl, rfl, h0_1, rfl, gr1, hR1⟩ (by repeat (first | exact Sub.nil | refine Sub.cons rfl ?_)) ?_
  clear h0_1
  rintro _ _ w2 ⟨t14, b, rfl, rfl, hI1, hn_b, gr2, k1⟩
  have H := HR1 t14 b hI1
  replace H := H hn_b
  refine WC.seq ?_
  refine WC.region ?_
  refine WL.y rfl (Yld.pure tab_ok rfl) ?_
  refine WL.nil (WX.then_normal ?_)
  refine WC.seq ?_
  refine WC.cond rfl (fun b1 => ?_) (fun b1 => ?_)
  · replace H := H.1 (of_decide_eq_true b1)
    refine WC.skip (WX.then_normal ?_)
    refine WC.seq ?_
    obtain ⟨J1, H, hJ1⟩ := H
    refine WC.midF (fun L' w' => ∃ (xs : List UInt8), L' = [(1, .int .u8 first), (2, .int .i64 by_), (7, .slice A_b s.length c_b), (12, .slice A_b s.length c_b), (13, .int .i64 (s.length : Int)), (14, .int .i64 t14)] ∧ J1 xs ∧ s.length = xs.length ∧ w.grownBy w' none ∧ OwnM vb w' w.heap.size 5 A_b c_b xs) ?_ (fun hQ => ?_)
    · clear H
      rintro _ w3 ⟨xs, rfl, H, hn_xs, gr3, k2⟩
      replace H := hJ1 xs H
      replace H := H hn_xs
      refine WX.then_normal ?_
      refine WC.region ?_
      obtain ⟨h2, H⟩ := H
      refine WL.y rfl (Yld.add rfl rfl h2) ?_
      refine WL.y rfl (Yld.pure tab_ok rfl) ?_
      refine WL.nil ?_
      exact WX.roundF _ ⟨t14 + (1 : Int), xs, rfl, rfl, H.1, hn_xs, gr3, k2⟩ (by repeat (first | exact Sub.nil | refine Sub.cons rfl ?_)) H.2
    · clear hJ1
      refine WC.block ?_
      refine WC.seq ?_
      refine WC.region ?_
      refine WL.y rfl (Yld.pure tab_ok rfl) ?_
      obtain ⟨h3, H⟩ := H
      refine WL.y rfl (Yld.iaddrW tab_ok k1.rd rfl rfl hn_b rfl h3.1 h3.2) ?_
      refine WL.y rfl (Yld.iload 0 tab_ok k1.rd rfl rfl (iltN h3 hn_b)) ?_
      refine WL.y rfl (Yld.pure tab_ok rfl) ?_
      refine WL.y rfl (Yld.pure tab_ok rfl) ?_
      refine WL.nil (WX.then_normal ?_)
      refine WC.seq ?_
      refine WC.region ?_
      refine WL.y rfl (Yld.pure tab_ok rfl) ?_
      refine WL.y rfl (Yld.pure tab_ok rfl) ?_
      refine WL.y rfl (Yld.pure tab_ok rfl) ?_
      refine WL.y rfl (Yld.pure tab_ok rfl) ?_
      obtain ⟨h4, H⟩ := H
      refine WL.midF 5 (fun L' w' => ∃ q1 : Bool, L' = [(27, .bool q1), (1, .int .u8 first), (2, .int .i64 by_), (7, .slice A_b s.length c_b), (8, .int .i64 t14), (9, .int .u8 ((b.getD t14.toNat 0).toNat : Int)), (12, .slice A_b s.length c_b), (13, .int .i64 (s.length : Int)), (14, .int .i64 t14)] ∧ q1 = ((decide (first ≤ ((b.getD t14.toNat 0).toNat : Int))) && (decide (((b.getD t14.toNat 0).toNat : Int) < (first + (26 : Int))))) ∧ w2 = w') ?_ (fun hQ => ?_)
      · rintro _ _ ⟨q1, rfl, rfl, rfl⟩
        refine WL.nil (WX.then_normal ?_)
        refine WC.cond rfl (fun b2 => ?_) (fun b2 => ?_)
        · replace H := H.1 (b2)
          refine WC.region ?_
          refine WL.y rfl (Yld.pure tab_ok rfl) ?_
          refine WL.y rfl (Yld.pure tab_ok rfl) ?_
          refine WL.y rfl (Yld.pure tab_ok rfl) ?_
          refine WL.y rfl (Yld.convB tab_ok rfl rfl rfl rfl) ?_
          refine WL.y rfl (Yld.pure tab_ok rfl) ?_
          obtain ⟨h5, H⟩ := H
          refine WL.y rfl (Yld.add rfl rfl h5) ?_
          obtain ⟨h6, H⟩ := H
          refine WL.y rfl (Yld.conv tab_ok rfl rfl rfl h6) ?_
          obtain ⟨h7, H⟩ := H
          refine WL.y rfl (Yld.iaddrW tab_ok k1.rd rfl rfl hn_b rfl h7.1 h7.2) ?_
          obtain ⟨h8, H⟩ := H
          refine WL.ostoreM (v := UInt8.ofNat (((b.getD t14.toNat 0).toNat : Int) + by_).toNat) one5  k1 rfl (byte_eq h8) (iltN h7 hn_b) (fun w4 hO1 hg2 => ?_)
          have gr4 := gr_mod gr2 hg2 k1.ge'
          refine WL.nil (WX.block_normal ?_)
          exact WX.weaken (by repeat (first | exact Sub.nil | refine Sub.cons rfl ?_)) (hQ _ _ ⟨b.set t14.toNat (UInt8.ofNat (((b.getD t14.toNat 0).toNat : Int) + by_).toNat), rfl, H, (hn_b.trans List.length_set.symm), gr4, hO1⟩)
        · replace H := H.2 (b2)
          refine WC.skip (WX.block_normal ?_)
          exact WX.weaken (by repeat (first | exact Sub.nil | refine Sub.cons rfl ?_)) (hQ _ _ ⟨b, rfl, H, hn_b, gr2, k1⟩)
      · clear H
        rcases Bool.eq_false_or_eq_true (decide (first ≤ ((b.getD t14.toNat 0).toNat : Int))) with b3 | b3
        · refine WL.gyes rfl rfl (okb b3) rfl (Yld.pure tab_ok rfl) ?_
          refine WL.gyes rfl rfl (okb b3) rfl (Yld.pure tab_ok rfl) ?_
          refine WL.gyes rfl rfl (okb b3) rfl (Yld.add rfl rfl (h4 b3)) ?_
          refine WL.gyes rfl rfl (okb b3) rfl (Yld.pure tab_ok rfl) ?_
          refine WL.y rfl (Yld.pickT (okb b3) rfl) ?_
          exact WL.weaken (by repeat (first | exact Sub.nil | refine Sub.cons rfl ?_)) (hQ _ _ ⟨decide (((b.getD t14.toNat 0).toNat : Int) < (first + (26 : Int))), rfl, by rw [b3] <;> rfl, rfl⟩)
        · refine WL.gno rfl rfl (okb b3) rfl ?_
          refine WL.gno rfl rfl (okb b3) rfl ?_
          refine WL.gno rfl rfl (okb b3) rfl ?_
          refine WL.gno rfl rfl (okb b3) rfl ?_
          refine WL.y rfl (Yld.pickF (okb b3) rfl) ?_
          exact WL.weaken (by repeat (first | exact Sub.nil | refine Sub.cons rfl ?_)) (hQ _ _ ⟨false, rfl, by rw [b3] <;> rfl, rfl⟩)
  · replace H := H.2 (of_decide_eq_false b1)
    refine WC.exit (WX.then_exit (WX.then_exit (WX.block_same (WX.then_normal ?_))))
    refine WC.seq ?_
    refine WC.region ?_
    refine WL.y rfl (Yld.pure tab_ok rfl) ?_
    refine WL.y rfl (Yld.b2s tab_ok k1.rd rfl rfl rfl rfl hn_b) ?_
    refine WL.y rfl (Yld.pure tab_ok rfl) ?_
    refine WL.nil (WX.then_normal ?_)
    refine WC.ret ?_
    exact WX.ret1 rfl rfl ⟨gr2, b, rfl, H⟩

set_option maxHeartbeats 8000000 in
theorem W_str_Upper {w : World} {s : List UInt8} {K : (List UInt8) → Prop} (H : M_str_Upper s K) : Fn Tryd.prog 22 ⟨[vs s]⟩ w (fun v w' => w.grownBy w' none ∧ ∃ (r : List UInt8), v = vs r ∧ K r) := by
  unfold M_str_Upper at H
  refine Fn.enter (by kernel_rfl) Tryd.func22 rfl Tryd.ntmps22 rfl ?_
  refine WC.seq ?_
  refine WC.region ?_
  refine WL.y rfl (Yld.pure tab_ok rfl) ?_
  refine WL.nil (WX.then_normal ?_)
  refine WC.seq ?_
  refine WC.region ?_
  refine WL.y rfl (Yld.pure tab_ok rfl) ?_
  refine WL.call rfl rfl (W_str_turned H) ?_
  rintro _ w1 ⟨hg1, t2, rfl, H⟩
  have gr1 := hg1
  refine WL.y rfl (Yld.pure tab_ok rfl) ?_
  refine WL.nil (WX.then_normal ?_)
  refine WC.ret ?_
  exact WX.ret1 rfl rfl ⟨gr1, t2, rfl, H⟩

set_option maxHeartbeats 8000000 in
theorem W_str_Lower {w : World} {s : List UInt8} {K : (List UInt8) → Prop} (H : M_str_Lower s K) : Fn Tryd.prog 21 ⟨[vs s]⟩ w (fun v w' => w.grownBy w' none ∧ ∃ (r : List UInt8), v = vs r ∧ K r) := by
  unfold M_str_Lower at H
  refine Fn.enter (by kernel_rfl) Tryd.func21 rfl Tryd.ntmps21 rfl ?_
  refine WC.seq ?_
  refine WC.region ?_
  refine WL.y rfl (Yld.pure tab_ok rfl) ?_
  refine WL.nil (WX.then_normal ?_)
  refine WC.seq ?_
  refine WC.region ?_
  refine WL.y rfl (Yld.pure tab_ok rfl) ?_
  refine WL.call rfl rfl (W_str_turned H) ?_
  rintro _ w1 ⟨hg1, t2, rfl, H⟩
  have gr1 := hg1
  refine WL.y rfl (Yld.pure tab_ok rfl) ?_
  refine WL.nil (WX.then_normal ?_)
  refine WC.ret ?_
  exact WX.ret1 rfl rfl ⟨gr1, t2, rfl, H⟩

set_option maxHeartbeats 8000000 in
theorem W_str_Repeat {S : List Nat} {w : World} {s : List UInt8} {n : Int} {K : (List UInt8) → Er → Prop} (hG : GOK S w) (hS7 : 7 ∈ S) (H : M_str_Repeat s n K) : Fn Tryd.prog 30 ⟨[vs s, .int .i64 n]⟩ w (fun v w' => w.grownBy w' none ∧ ∃ (r0 : List UInt8), ∃ (v_r1 : Value), ∃ (r1 : Er), v = .tuple #[vs r0, v_r1] ∧ ErrR S w' v_r1 r1 ∧ K r0 r1) := by
  unfold M_str_Repeat at H
  refine Fn.enter (by kernel_rfl) Tryd.func30 rfl Tryd.ntmps30 rfl ?_
  refine WC.seq ?_
  refine WC.region ?_
  refine WL.y rfl (Yld.pure tab_ok rfl) ?_
  refine WL.y rfl (Yld.pure tab_ok rfl) ?_
  refine WL.nil (WX.then_normal ?_)
  refine WC.seq ?_
  refine WC.seq ?_
  refine WC.region ?_
  refine WL.y rfl (Yld.pure tab_ok rfl) ?_
  refine WL.y rfl (Yld.pure tab_ok rfl) ?_
  refine WL.y rfl (Yld.pure tab_ok rfl) ?_
  refine WL.midF 3 (fun L' w' => ∃ q1 : Bool, L' = [(11, .bool q1), (0, vs s), (1, .int .i64 n)] ∧ q1 = ((decide (n < (1 : Int))) || (decide (s = ([] : List UInt8)))) ∧ w = w') ?_ (fun hQ => ?_)
  · rintro _ _ ⟨q1, rfl, rfl, rfl⟩
    refine WL.nil (WX.then_normal ?_)
    refine WC.cond rfl (fun b1 => ?_) (fun b1 => ?_)
    · replace H := H.1 (b1)
      refine WC.seq ?_
      refine WC.region ?_
      refine WL.y rfl (Yld.pure tab_ok rfl) ?_
      refine WL.y rfl (Yld.pure tab_ok rfl) ?_
      refine WL.nil (WX.then_normal ?_)
      refine WC.ret (WX.then_ret ?_)
      exact WX.ret2 rfl rfl rfl ⟨(gr_refl _ _), ([] : List UInt8), .nilIface, Er.ok, rfl, (ErrR.okR (S := S) (w := w)), H⟩
    · replace H := H.2 (b1)
      refine WC.skip (WX.then_normal ?_)
      refine WC.seq ?_
      refine WC.seq ?_
      refine WC.region ?_
      refine WL.y rfl (Yld.pure tab_ok rfl) ?_
      refine WL.y rfl (Yld.pure tab_ok rfl) ?_
      refine WL.y rfl (Yld.pure tab_ok rfl) ?_
      obtain ⟨h1, H⟩ := H
      refine WL.y rfl (Yld.quo rfl rfl h1.1 h1.2.1 h1.2.2) ?_
      refine WL.y rfl (Yld.pure tab_ok rfl) ?_
      refine WL.nil (WX.then_normal ?_)
      refine WC.cond rfl (fun b2 => ?_) (fun b2 => ?_)
      · replace H := H.1 (of_decide_eq_true b2)
        refine WC.seq ?_
        refine WC.quiet mixed (by kernel_rfl) ?_
        obtain ⟨vE1, _, hE1⟩ := GOK.get hG 7 1 hS7 rfl rfl
        refine WQ.y rfl (Yld.cell tab_ok (ErrR.cell hE1 rfl) rfl rfl) ?_
        refine WQ.y rfl (Yld.pure tab_ok rfl) ?_
        refine WQ.y rfl (Yld.pure tab_ok rfl) ?_
        refine WQ.nil (WX.then_normal ?_)
        refine WC.ret (WX.then_ret ?_)
        exact WX.ret2 rfl rfl rfl ⟨(gr_refl _ _), ([] : List UInt8), vE1, (Er.e 7), rfl, hE1, H⟩
      · replace H := H.2 (of_decide_eq_false b2)
        refine WC.skip (WX.then_normal ?_)
        refine WC.seq ?_
        refine WC.region ?_
        refine WL.y rfl (Yld.pure tab_ok rfl) ?_
        refine WL.y rfl (Yld.pure tab_ok rfl) ?_
        refine WL.call rfl rfl (W_strings_Repeat H) ?_
        rintro _ w1 ⟨hg1, t4, rfl, H⟩
        have gr1 := hg1
        refine WL.y rfl (Yld.pure tab_ok rfl) ?_
        refine WL.y rfl (Yld.pure tab_ok rfl) ?_
        refine WL.nil (WX.then_normal ?_)
        refine WC.ret ?_
        exact WX.ret2 rfl rfl rfl ⟨gr1, t4, .nilIface, Er.ok, rfl, (ErrR.okR (S := S) (w := w1)), H⟩
  · clear H
    rcases Bool.eq_false_or_eq_true (decide (n < (1 : Int))) with b3 | b3
    · refine WL.gno rfl rfl (okb b3) rfl ?_
      refine WL.gno rfl rfl (okb b3) rfl ?_
      refine WL.y rfl (Yld.pickT (okb b3) rfl) ?_
      exact WL.weaken (by repeat (first | exact Sub.nil | refine Sub.cons rfl ?_)) (hQ _ _ ⟨true, rfl, by rw [b3] <;> rfl, rfl⟩)
    · refine WL.gyes rfl rfl (okb b3) rfl (Yld.pure tab_ok rfl) ?_
      refine WL.gyes rfl rfl (okb b3) rfl (Yld.pure tab_ok rfl) ?_
      refine WL.y rfl (Yld.pickF (okb b3) rfl) ?_
      exact WL.weaken (by repeat (first | exact Sub.nil | refine Sub.cons rfl ?_)) (hQ _ _ ⟨decide (s = ([] : List UInt8)), rfl, by rw [b3] <;> rfl, rfl⟩)

end Go.Proofs.YtjinkmipkfjblaaDoor

 /- Printed by a program (wip/vg): what the functions mean, plainly, and their walks. -/
namespace Go.Proofs.YtjinkmipkfjblaaDoor
open Go Go.RowKit
attribute [local irreducible] WL WC WX WQ WK WJ Yld Eff Ef0 Fn
def M_smithyref_SameTexts (a : List (List UInt8)) (b : List (List UInt8)) (K : Bool → Prop) : Prop :=
 (a.length ≤ maxLen →
 (b.length ≤ maxLen →
 ((¬ ((a.length : Int) = (b.length : Int)) → K false) ∧
 ((a.length : Int) = (b.length : Int) → Lp1 (fun (i : Int) k_1 => ((i < (a.length : Int) → (0 ≤ i ∧ i < (a.length : Nat)) ∧
 (0 ≤ i ∧ i < (b.length : Nat)) ∧
 ((¬ ((a.getD i.toNat []) = (b.getD i.toNat [])) → K false) ∧
 ((a.getD i.toNat []) = (b.getD i.toNat []) → (In .i64 (i + (1 : Int))) ∧
 k_1 (i + (1 : Int))))) ∧
 (¬ (i < (a.length : Int)) → K true))) (0 : Int)))))

def M_smithyref11_at (s : List UInt8) (what : List UInt8) (i : Int) (K : Bool → Prop) : Prop :=
 (In .i64 ((s.length : Int) - i)) ∧
 ((decide ((what.length : Int) ≤ ((s.length : Int) - i))) = true → (In .i64 (i + (what.length : Int)))) ∧
 ((decide ((what.length : Int) ≤ ((s.length : Int) - i))) = true → (0 ≤ i ∧ i ≤ i + (what.length : Int) ∧ i + (what.length : Int) ≤ s.length)) ∧
 K ((decide ((what.length : Int) ≤ ((s.length : Int) - i))) && (decide (((s.drop i.toNat).take ((i + (what.length : Int)).toNat - i.toNat)) = what)))

def M_smithyref11_texts (l : List (List UInt8)) (K : (List (List UInt8)) → Int → Prop) : Prop :=
 (l.length ≤ maxLen →
 (((1024 : Int) < (l.length : Int) → K [] (108 : Int)) ∧
 (¬ ((1024 : Int) < (l.length : Int)) → K l (0 : Int))))

def M_smithyref11_blank (c : Int) (K : Bool → Prop) : Prop :=
 K ((decide (c = (32 : Int))) || ((decide ((9 : Int) ≤ c)) && (decide (c ≤ (13 : Int)))))

def M_smithyref11_strips (c : Int) (bytes : List UInt8) (K : Bool → Prop) : Prop :=
 ((bytes = ([] : List UInt8) → M_smithyref11_blank c (fun (t4 : Bool) =>
 K t4)) ∧
 (¬ (bytes = ([] : List UInt8)) → Lp1 (fun (i : Int) k_1 => ((i < (bytes.length : Int) → (0 ≤ i ∧ i < bytes.length) ∧
 ((((bytes.getD i.toNat 0).toNat : Int) = c → K true) ∧
 (¬ (((bytes.getD i.toNat 0).toNat : Int) = c) → (In .i64 (i + (1 : Int))) ∧
 k_1 (i + (1 : Int))))) ∧
 (¬ (i < (bytes.length : Int)) → K false))) (0 : Int)))

def M_smithyref11_bound (n : Int) (i : Int) (K : Int → Prop) : Prop :=
 ((i < (0 : Int) → (In .i64 (0 - n)) ∧
 ((i < (0 - n) → K (0 : Int)) ∧
 (¬ (i < (0 - n)) → (In .i64 (n + i)) ∧
 K (n + i)))) ∧
 (¬ (i < (0 : Int)) → K (if n < i then n else i)))

def M_smithyref11_Split (s : List UInt8) (by_ : List UInt8) (most : Int) (K : (List (List UInt8)) → Int → Prop) : Prop :=
 ((by_ = ([] : List UInt8) → K [] (104 : Int)) ∧
 (¬ (by_ = ([] : List UInt8)) → Lp4 (fun (l : List (List UInt8)) (from_ : Int) (cuts : Int) (i : Int) k_1 => ((i < (s.length : Int) → M_smithyref11_at s by_ i (fun (t21 : Bool) =>
 (((t21 && ((decide (most < (0 : Int))) || (decide (cuts < most)))) = true → (0 ≤ from_ ∧ from_ ≤ i ∧ i ≤ s.length) ∧
 ((l.length + (([(s.drop from_.toNat).take (i.toNat - from_.toNat)] : List (List UInt8))).length) * 16 ≤ 140737488355328) ∧
 (In .i64 (i + (by_.length : Int))) ∧
 (In .i64 (cuts + (1 : Int))) ∧
 k_1 (l ++ ([(s.drop from_.toNat).take (i.toNat - from_.toNat)] : List (List UInt8))) (i + (by_.length : Int)) (cuts + (1 : Int)) (i + (by_.length : Int))) ∧
 ((t21 && ((decide (most < (0 : Int))) || (decide (cuts < most)))) = false → (In .i64 (i + (1 : Int))) ∧
 k_1 l from_ cuts (i + (1 : Int)))))) ∧
 (¬ (i < (s.length : Int)) → (0 ≤ from_ ∧ from_ ≤ s.length) ∧
 ((l.length + (([s.drop from_.toNat] : List (List UInt8))).length) * 16 ≤ 140737488355328) ∧
 M_smithyref11_texts (l ++ ([s.drop from_.toNat] : List (List UInt8))) (fun (t530 : List (List UInt8)) (t531 : Int) =>
 K t530 t531)))) [] (0 : Int) (0 : Int) (0 : Int)))

def M_smithyref11_Words (s : List UInt8) (K : (List (List UInt8)) → Prop) : Prop :=
 Lp3 (fun (l : List (List UInt8)) (from_ : Int) (i : Int) k_1 => ((i ≤ (s.length : Int) → ∃ J1 : (List (List UInt8)) → Int → Prop, (∃ J2 : Bool → Prop, ((((decide (i < (s.length : Int))) = true → (0 ≤ i ∧ i < s.length) ∧
 M_smithyref11_blank ((s.getD i.toNat 0).toNat : Int) (fun (t21 : Bool) =>
 J2 (!t21))) ∧
 ((decide (i < (s.length : Int))) = false → J2 false))) ∧
 (∀ q1 : Bool, J2 q1 → ∃ J3 : Int → Prop, ((((q1 && (decide (from_ < (0 : Int)))) = true → J3 i) ∧
 ((q1 && (decide (from_ < (0 : Int)))) = false → J3 from_))) ∧
 (∀ from_3 : Int, J3 from_3 → ((((!q1) && (decide ((0 : Int) ≤ from_3))) = true → (0 ≤ from_3 ∧ from_3 ≤ i ∧ i ≤ s.length) ∧
 ((l.length + (([(s.drop from_3.toNat).take (i.toNat - from_3.toNat)] : List (List UInt8))).length) * 16 ≤ 140737488355328) ∧
 J1 (l ++ ([(s.drop from_3.toNat).take (i.toNat - from_3.toNat)] : List (List UInt8))) (-1 : Int)) ∧
 (((!q1) && (decide ((0 : Int) ≤ from_3))) = false → J1 l from_3))))) ∧
 (∀ l2 : List (List UInt8), ∀ from_2 : Int, J1 l2 from_2 → (In .i64 (i + (1 : Int))) ∧
 k_1 l2 from_2 (i + (1 : Int)))) ∧
 (¬ (i ≤ (s.length : Int)) → K l))) [] (-1 : Int) (0 : Int)

def M_smithyref11_Join (by_ : List UInt8) (l : List (List UInt8)) (K : (List UInt8) → Int → Prop) : Prop :=
 (l.length ≤ maxLen →
 Lp2 (fun (b : List UInt8) (i : Int) k_1 => ((i < (l.length : Int) → ∃ J1 : (List UInt8) → Prop, ((((0 : Int) < i → ((b.length + by_.length) * 1 ≤ 140737488355328) ∧
 J1 (b ++ by_)) ∧
 (¬ ((0 : Int) < i) → J1 b))) ∧
 (∀ b_2 : List UInt8, J1 b_2 → (0 ≤ i ∧ i < (l.length : Nat)) ∧
 ((b_2.length + (l.getD i.toNat []).length) * 1 ≤ 140737488355328) ∧
 (((1024 : Int) < ((b_2 ++ (l.getD i.toNat [])).length : Int) → K ([] : List UInt8) (108 : Int)) ∧
 (¬ ((1024 : Int) < ((b_2 ++ (l.getD i.toNat [])).length : Int)) → (In .i64 (i + (1 : Int))) ∧
 k_1 (b_2 ++ (l.getD i.toNat [])) (i + (1 : Int)))))) ∧
 (¬ (i < (l.length : Int)) → K b (0 : Int)))) [] (0 : Int))

def M_smithyref11_Replace (s : List UInt8) (old : List UInt8) (by_ : List UInt8) (most : Int) (K : (List UInt8) → Int → Prop) : Prop :=
 Lp3 (fun (b : List UInt8) (n : Int) (i : Int) k_1 => ((i ≤ (s.length : Int) → ∃ J1 : (List UInt8) → Int → Prop, (∃ J3 : Bool → Prop, (((((decide (most < (0 : Int))) || (decide (n < most))) = true → M_smithyref11_at s old i (fun (t28 : Bool) =>
 J3 t28)) ∧
 (((decide (most < (0 : Int))) || (decide (n < most))) = false → J3 false))) ∧
 (∀ q2 : Bool, J3 q2 → ((((q2 && ((!decide (old = ([] : List UInt8))) || (decide (i ≤ (s.length : Int))))) && (!((!decide (old = ([] : List UInt8))) && (decide (i = (s.length : Int)))))) = true → ((b.length + by_.length) * 1 ≤ 140737488355328) ∧
 (In .i64 (n + (1 : Int))) ∧
 ((¬ (old = ([] : List UInt8)) → (In .i64 (i + (old.length : Int))) ∧
 (((1024 : Int) < ((b ++ by_).length : Int) → K ([] : List UInt8) (108 : Int)) ∧
 (¬ ((1024 : Int) < ((b ++ by_).length : Int)) → k_1 (b ++ by_) (n + (1 : Int)) (i + (old.length : Int))))) ∧
 (old = ([] : List UInt8) → J1 (b ++ by_) (n + (1 : Int))))) ∧
 (((q2 && ((!decide (old = ([] : List UInt8))) || (decide (i ≤ (s.length : Int))))) && (!((!decide (old = ([] : List UInt8))) && (decide (i = (s.length : Int)))))) = false → J1 b n)))) ∧
 (∀ b_2 : List UInt8, ∀ n2 : Int, J1 b_2 n2 → ∃ J2 : (List UInt8) → Prop, (((i < (s.length : Int) → (0 ≤ i ∧ i < s.length) ∧
 ((b_2.length + (([s.getD i.toNat 0] : List UInt8)).length) * 1 ≤ 140737488355328) ∧
 J2 (b_2 ++ ([s.getD i.toNat 0] : List UInt8))) ∧
 (¬ (i < (s.length : Int)) → J2 b_2))) ∧
 (∀ b_3 : List UInt8, J2 b_3 → (In .i64 (i + (1 : Int))) ∧
 (((1024 : Int) < (b_3.length : Int) → K ([] : List UInt8) (108 : Int)) ∧
 (¬ ((1024 : Int) < (b_3.length : Int)) → k_1 b_3 n2 (i + (1 : Int))))))) ∧
 (¬ (i ≤ (s.length : Int)) → K b (0 : Int)))) [] (0 : Int) (0 : Int)

def M_smithyref11_Cut (n : Int) (from_ : Int) (to_ : Int) (has : Bool) (until_ : Bool) (K : Int → Int → Prop) : Prop :=
 M_smithyref11_bound n from_ (fun (a : Int) =>
 M_smithyref11_bound n to_ (fun (b : Int) =>
 ∃ J1 : Int → Prop, ((((!has) = true → J1 (0 : Int)) ∧
 ((!has) = false → J1 a))) ∧
 (∀ a2 : Int, J1 a2 → ∃ J2 : Int → Prop, ((((!until_) = true → J2 n) ∧
 ((!until_) = false → J2 b))) ∧
 (∀ b_2 : Int, J2 b_2 → K a2 (if a2 < b_2 then b_2 else a2)))))

def M_smithyref11_Find (s : List UInt8) (what : List UInt8) (from_ : Int) (to_ : Int) (K : Int → Prop) : Prop :=
 M_smithyref11_Cut (s.length : Int) from_ to_ true true (fun (t170 : Int) (t171 : Int) =>
 Lp1 (fun (i : Int) k_1 => (In .i64 (t171 - (what.length : Int))) ∧
 ((i ≤ (t171 - (what.length : Int)) → M_smithyref11_at s what i (fun (t32 : Bool) =>
 ((t32 = true → K i) ∧
 (t32 = false → (In .i64 (i + (1 : Int))) ∧
 k_1 (i + (1 : Int)))))) ∧
 (¬ (i ≤ (t171 - (what.length : Int))) → K (-1 : Int)))) t170)

def M_smithyref11_Count (s : List UInt8) (what : List UInt8) (K : Int → Prop) : Prop :=
 ((what = ([] : List UInt8) → (In .i64 ((s.length : Int) + (1 : Int))) ∧
 K ((s.length : Int) + (1 : Int))) ∧
 (¬ (what = ([] : List UInt8)) → Lp2 (fun (n : Int) (i : Int) k_1 => ((i < (s.length : Int) → M_smithyref11_at s what i (fun (t19 : Bool) =>
 ((t19 = true → (In .i64 (n + (1 : Int))) ∧
 (In .i64 (i + (what.length : Int))) ∧
 k_1 (n + (1 : Int)) (i + (what.length : Int))) ∧
 (t19 = false → (In .i64 (i + (1 : Int))) ∧
 k_1 n (i + (1 : Int)))))) ∧
 (¬ (i < (s.length : Int)) → K n))) (0 : Int) (0 : Int)))

def M_smithyref11_Strip (s : List UInt8) (bytes : List UInt8) (left : Bool) (right : Bool) (K : (List UInt8) → Prop) : Prop :=
 Lp1 (fun (a : Int) k_1 => ∃ J1 : Bool → Prop, ((((left && (decide (a < (s.length : Int)))) = true → (0 ≤ a ∧ a < s.length) ∧
 M_smithyref11_strips ((s.getD a.toNat 0).toNat : Int) bytes (fun (t24 : Bool) =>
 J1 t24)) ∧
 ((left && (decide (a < (s.length : Int)))) = false → J1 false))) ∧
 (∀ q2 : Bool, J1 q2 → ((q2 = true → (In .i64 (a + (1 : Int))) ∧
 k_1 (a + (1 : Int))) ∧
 (q2 = false → Lp1 (fun (b : Int) k_2 => ∃ J2 : Bool → Prop, ((((right && (decide (a < b))) = true → (In .i64 (b - (1 : Int))) ∧
 (0 ≤ b - (1 : Int) ∧ b - (1 : Int) < s.length) ∧
 M_smithyref11_strips ((s.getD (b - (1 : Int)).toNat 0).toNat : Int) bytes (fun (t40 : Bool) =>
 J2 t40)) ∧
 ((right && (decide (a < b))) = false → J2 false))) ∧
 (∀ q4 : Bool, J2 q4 → ((q4 = true → (In .i64 (b - (1 : Int))) ∧
 k_2 (b - (1 : Int))) ∧
 (q4 = false → (0 ≤ a ∧ a ≤ b ∧ b ≤ s.length) ∧
 K ((s.drop a.toNat).take (b.toNat - a.toNat)))))) (s.length : Int))))) (0 : Int)

def M_smithyref11_Turn (s : List UInt8) (up : Bool) (K : (List UInt8) → Prop) : Prop :=
 (0 ≤ (s.length : Int) ∧ (s.length : Int) * 1 ≤ 140737488355328 ∧ (s.length : Int) ≤ 140737488355328) ∧
 (((([] : List UInt8)).length + s.length) * 1 ≤ 140737488355328) ∧
 Lp2 (fun (i : Int) (b : List UInt8) k_1 => (([] : List UInt8) ++ s).length = b.length → ((i < ((([] : List UInt8) ++ s).length : Int) → ∃ J1 : (List UInt8) → Prop, ((up = true → (0 ≤ i ∧ i < ((([] : List UInt8) ++ s).length : Nat))) ∧
 ((up && (decide ((97 : Int) ≤ ((b.getD i.toNat 0).toNat : Int)))) = true → (0 ≤ i ∧ i < ((([] : List UInt8) ++ s).length : Nat))) ∧
 ((((up && (decide ((97 : Int) ≤ ((b.getD i.toNat 0).toNat : Int)))) && (decide (((b.getD i.toNat 0).toNat : Int) ≤ (122 : Int)))) = true → (0 ≤ i ∧ i < ((([] : List UInt8) ++ s).length : Nat)) ∧
 (In .u8 (((b.getD i.toNat 0).toNat : Int) - (32 : Int))) ∧
 (0 ≤ i ∧ i < ((([] : List UInt8) ++ s).length : Nat)) ∧
 (0 ≤ ((b.getD i.toNat 0).toNat : Int) - (32 : Int) ∧ ((b.getD i.toNat 0).toNat : Int) - (32 : Int) ≤ 255) ∧
 J1 (b.set i.toNat (UInt8.ofNat (((b.getD i.toNat 0).toNat : Int) - (32 : Int)).toNat))) ∧
 (((up && (decide ((97 : Int) ≤ ((b.getD i.toNat 0).toNat : Int)))) && (decide (((b.getD i.toNat 0).toNat : Int) ≤ (122 : Int)))) = false → ((!up) = true → (0 ≤ i ∧ i < ((([] : List UInt8) ++ s).length : Nat))) ∧
 (((!up) && (decide ((65 : Int) ≤ ((b.getD i.toNat 0).toNat : Int)))) = true → (0 ≤ i ∧ i < ((([] : List UInt8) ++ s).length : Nat))) ∧
 (((((!up) && (decide ((65 : Int) ≤ ((b.getD i.toNat 0).toNat : Int)))) && (decide (((b.getD i.toNat 0).toNat : Int) ≤ (90 : Int)))) = true → (0 ≤ i ∧ i < ((([] : List UInt8) ++ s).length : Nat)) ∧
 (In .u8 (((b.getD i.toNat 0).toNat : Int) + (32 : Int))) ∧
 (0 ≤ i ∧ i < ((([] : List UInt8) ++ s).length : Nat)) ∧
 (0 ≤ ((b.getD i.toNat 0).toNat : Int) + (32 : Int) ∧ ((b.getD i.toNat 0).toNat : Int) + (32 : Int) ≤ 255) ∧
 J1 (b.set i.toNat (UInt8.ofNat (((b.getD i.toNat 0).toNat : Int) + (32 : Int)).toNat))) ∧
 ((((!up) && (decide ((65 : Int) ≤ ((b.getD i.toNat 0).toNat : Int)))) && (decide (((b.getD i.toNat 0).toNat : Int) ≤ (90 : Int)))) = false → J1 b))))) ∧
 (∀ xs : List UInt8, J1 xs → (([] : List UInt8) ++ s).length = xs.length → (In .i64 (i + (1 : Int))) ∧
 k_1 (i + (1 : Int)) xs)) ∧
 (¬ (i < ((([] : List UInt8) ++ s).length : Int)) → K b))) (0 : Int) (([] : List UInt8) ++ s)

def M_smithyref11_Repeat (s : List UInt8) (n : Int) (K : (List UInt8) → Int → Prop) : Prop :=
 ((((decide (n < (1 : Int))) || (decide (s = ([] : List UInt8)))) = true → K ([] : List UInt8) (0 : Int)) ∧
 (((decide (n < (1 : Int))) || (decide (s = ([] : List UInt8)))) = false → (0 ≤ (1024 : Int) ∧ 0 < (s.length : Int) ∧ In .i64 (1024 : Int)) ∧
 ((((1024 : Int) / (s.length : Int)) < n → K ([] : List UInt8) (108 : Int)) ∧
 (¬ (((1024 : Int) / (s.length : Int)) < n) → Lp2 (fun (b : List UInt8) (i : Int) k_1 => ((i < n → ((b.length + s.length) * 1 ≤ 140737488355328) ∧
 (In .i64 (i + (1 : Int))) ∧
 k_1 (b ++ s) (i + (1 : Int))) ∧
 (¬ (i < n) → K b (0 : Int)))) [] (0 : Int)))))

def M_smithyref11_IsDigits (s : List UInt8) (K : Bool → Prop) : Prop :=
 Lp1 (fun (i : Int) k_1 => ((i < (s.length : Int) → (0 ≤ i ∧ i < s.length) ∧
 ((decide (((s.getD i.toNat 0).toNat : Int) < (48 : Int))) = false → (0 ≤ i ∧ i < s.length)) ∧
 ((((decide (((s.getD i.toNat 0).toNat : Int) < (48 : Int))) || (decide ((57 : Int) < ((s.getD i.toNat 0).toNat : Int)))) = true → K false) ∧
 (((decide (((s.getD i.toNat 0).toNat : Int) < (48 : Int))) || (decide ((57 : Int) < ((s.getD i.toNat 0).toNat : Int)))) = false → (In .i64 (i + (1 : Int))) ∧
 k_1 (i + (1 : Int))))) ∧
 (¬ (i < (s.length : Int)) → K (!decide (s = ([] : List UInt8)))))) (0 : Int)

set_option maxHeartbeats 8000000 in
theorem W_smithyref_SameTexts {w : World} {a : List (List UInt8)} {A_a : Option Addr} {c_a : Nat} {b : List (List UInt8)} {A_b : Option Addr} {c_b : Nat} {n_a : Nat} {n_b : Nat} {K : Bool → Prop} (ha : Rd vs w A_a c_a a) (hn_a : n_a = a.length) (hb : Rd vs w A_b c_b b) (hn_b : n_b = b.length) (H : M_smithyref_SameTexts a b K) : Fn Tryd.prog 26 ⟨[.slice A_a n_a c_a, .slice A_b n_b c_b]⟩ w (fun v w' => w = w' ∧ ∃ (r : Bool), v = .bool r ∧ K r) := by
  subst hn_a
  subst hn_b
  unfold M_smithyref_SameTexts at H
  refine Fn.enter (by kernel_rfl) Tryd.func26 rfl Tryd.ntmps26 rfl ?_
  replace H := H (Nat.le_trans ha.cap ha.max)
  replace H := H (Nat.le_trans hb.cap hb.max)
  refine WC.seq ?_
  refine WC.region ?_
  refine WL.y rfl (Yld.pure tab_ok rfl) ?_
  refine WL.nil (WX.then_normal ?_)
  refine WC.seq ?_
  refine WC.seq ?_
  refine WC.region ?_
  refine WL.y rfl (Yld.pure tab_ok rfl) ?_
  refine WL.y rfl (Yld.pure tab_ok rfl) ?_
  refine WL.y rfl (Yld.pure tab_ok rfl) ?_
  refine WL.y rfl (Yld.pure tab_ok rfl) ?_
  refine WL.y rfl (Yld.pure tab_ok rfl) ?_
  refine WL.nil (WX.then_normal ?_)
  refine WC.cond rfl (fun b1 => ?_) (fun b1 => ?_)
  · replace H := H.1 (nd_true b1)
    refine WC.seq ?_
    refine WC.region ?_
    refine WL.y rfl (Yld.pure tab_ok rfl) ?_
    refine WL.nil (WX.then_normal ?_)
    refine WC.ret (WX.then_ret ?_)
    exact WX.ret1 rfl rfl ⟨rfl, false, rfl, H⟩
  · replace H := H.2 (nd_false b1)
    refine WC.skip (WX.then_normal ?_)
    refine WC.seq ?_
    refine WC.seq ?_
    refine WC.region ?_
    refine WL.y rfl (Yld.pure tab_ok rfl) ?_
    refine WL.nil (WX.then_normal ?_)
    refine WC.block ?_
    obtain ⟨I1, mu1, h0_1, HR1⟩ := H
    refine WC.loopF (fun n' L' w' => ∃ (i : Int), n' = mu1 i ∧ L' = [(0, .slice A_a a.length c_a), (1, .slice A_b b.length c_b), (5, .int .i64 i)] ∧ I1 i ∧ w = w') _ _ ⟨(0 : Int), rfl, rfl, h0_1, rfl⟩ (by repeat (first | exact Sub.nil | refine Sub.cons rfl ?_)) ?_
    clear h0_1
    rintro _ _ _ ⟨i, rfl, rfl, hI1, rfl⟩
    have H := HR1 i hI1
    refine WC.seq ?_
    refine WC.seq ?_
    refine WC.region ?_
    refine WL.y rfl (Yld.pure tab_ok rfl) ?_
    refine WL.y rfl (Yld.pure tab_ok rfl) ?_
    refine WL.y rfl (Yld.pure tab_ok rfl) ?_
    refine WL.y rfl (Yld.pure tab_ok rfl) ?_
    refine WL.nil (WX.then_normal ?_)
    refine WC.cond rfl (fun b2 => ?_) (fun b2 => ?_)
    · replace H := H.1 (of_decide_eq_true b2)
      refine WC.skip (WX.then_normal ?_)
      refine WC.seq ?_
      refine WC.block ?_
      refine WC.seq ?_
      refine WC.quiet mixed (by kernel_rfl) ?_
      refine WQ.y rfl (Yld.pure tab_ok rfl) ?_
      refine WQ.y rfl (Yld.pure tab_ok rfl) ?_
      obtain ⟨h1, H⟩ := H
      refine WQ.y rfl (Yld.iaddrW tab_ok ha rfl rfl rfl rfl h1.1 h1.2) ?_
      refine WQ.y rfl (Yld.iload [] tab_ok ha rfl rfl (iltN h1 rfl)) ?_
      refine WQ.y rfl (Yld.pure tab_ok rfl) ?_
      refine WQ.y rfl (Yld.pure tab_ok rfl) ?_
      obtain ⟨h2, H⟩ := H
      refine WQ.y rfl (Yld.iaddrW tab_ok hb rfl rfl rfl rfl h2.1 h2.2) ?_
      refine WQ.y rfl (Yld.iload [] tab_ok hb rfl rfl (iltN h2 rfl)) ?_
      refine WQ.y rfl (Yld.pure tab_ok rfl) ?_
      refine WQ.y rfl (Yld.pure tab_ok rfl) ?_
      refine WQ.nil (WX.then_normal ?_)
      refine WC.seq ?_
      refine WC.region ?_
      refine WL.y rfl (Yld.pure tab_ok rfl) ?_
      refine WL.y rfl (Yld.pure tab_ok rfl) ?_
      refine WL.nil (WX.then_normal ?_)
      refine WC.cond rfl (fun b3 => ?_) (fun b3 => ?_)
      · replace H := H.1 (nd_true b3)
        refine WC.seq ?_
        refine WC.region ?_
        refine WL.y rfl (Yld.pure tab_ok rfl) ?_
        refine WL.nil (WX.then_normal ?_)
        refine WC.ret (WX.block_ret (WX.then_ret (WX.then_ret (WX.block_ret (WX.then_ret ?_)))))
        exact WX.ret1 rfl rfl ⟨rfl, false, rfl, H⟩
      · replace H := H.2 (nd_false b3)
        refine WC.skip (WX.block_normal (WX.then_normal ?_))
        refine WC.region ?_
        refine WL.y rfl (Yld.pure tab_ok rfl) ?_
        obtain ⟨h3, H⟩ := H
        refine WL.y rfl (Yld.add rfl rfl h3) ?_
        refine WL.y rfl (Yld.pure tab_ok rfl) ?_
        refine WL.nil ?_
        exact WX.roundF _ ⟨i + (1 : Int), rfl, rfl, H.1, rfl⟩ (by repeat (first | exact Sub.nil | refine Sub.cons rfl ?_)) H.2
    · replace H := H.2 (of_decide_eq_false b2)
      refine WC.exit (WX.then_exit (WX.then_exit (WX.block_same (WX.then_normal ?_))))
      refine WC.seq ?_
      refine WC.region ?_
      refine WL.y rfl (Yld.pure tab_ok rfl) ?_
      refine WL.nil (WX.then_normal ?_)
      refine WC.ret ?_
      exact WX.ret1 rfl rfl ⟨rfl, true, rfl, H⟩

set_option maxHeartbeats 8000000 in
theorem W_smithyref11_at {w : World} {s : List UInt8} {what : List UInt8} {i : Int} {K : Bool → Prop} (H : M_smithyref11_at s what i K) : Fn Tryd.prog 67 ⟨[vs s, vs what, .int .i64 i]⟩ w (fun v w' => w = w' ∧ ∃ (r : Bool), v = .bool r ∧ K r) := by
  unfold M_smithyref11_at at H
  refine Fn.enter (by kernel_rfl) Tryd.func67 rfl Tryd.ntmps67 rfl ?_
  refine WC.seq ?_
  refine WC.region ?_
  refine WL.y rfl (Yld.pure tab_ok rfl) ?_
  refine WL.nil (WX.then_normal ?_)
  refine WC.seq ?_
  refine WC.region ?_
  refine WL.y rfl (Yld.pure tab_ok rfl) ?_
  refine WL.y rfl (Yld.pure tab_ok rfl) ?_
  refine WL.y rfl (Yld.pure tab_ok rfl) ?_
  obtain ⟨h1, H⟩ := H
  refine WL.y rfl (Yld.sub rfl rfl h1) ?_
  refine WL.y rfl (Yld.pure tab_ok rfl) ?_
  refine WL.y rfl (Yld.pure tab_ok rfl) ?_
  refine WL.y rfl (Yld.pure tab_ok rfl) ?_
  refine WL.y rfl (Yld.pure tab_ok rfl) ?_
  obtain ⟨h2, H⟩ := H
  obtain ⟨h3, H⟩ := H
  refine WL.midF 10 (fun L' w' => ∃ q1 : Bool, L' = [(24, .bool q1)] ∧ q1 = ((decide ((what.length : Int) ≤ ((s.length : Int) - i))) && (decide (((s.drop i.toNat).take ((i + (what.length : Int)).toNat - i.toNat)) = what))) ∧ w = w') ?_ (fun hQ => ?_)
  · rintro _ _ ⟨q1, rfl, rfl, rfl⟩
    refine WL.y rfl (Yld.pure tab_ok rfl) ?_
    refine WL.nil (WX.then_normal ?_)
    refine WC.ret ?_
    exact WX.ret1 rfl rfl ⟨rfl, (decide ((what.length : Int) ≤ ((s.length : Int) - i))) && (decide (((s.drop i.toNat).take ((i + (what.length : Int)).toNat - i.toNat)) = what)), rfl, H⟩
  · clear H
    rcases Bool.eq_false_or_eq_true (decide ((what.length : Int) ≤ ((s.length : Int) - i))) with b1 | b1
    · refine WL.gyes rfl rfl (okb b1) rfl (Yld.pure tab_ok rfl) ?_
      refine WL.gyes rfl rfl (okb b1) rfl (Yld.pure tab_ok rfl) ?_
      refine WL.gyes rfl rfl (okb b1) rfl (Yld.pure tab_ok rfl) ?_
      refine WL.gyes rfl rfl (okb b1) rfl (Yld.pure tab_ok rfl) ?_
      refine WL.gyes rfl rfl (okb b1) rfl (Yld.pure tab_ok rfl) ?_
      refine WL.gyes rfl rfl (okb b1) rfl (Yld.add rfl rfl (h2 b1)) ?_
      refine WL.gyes rfl rfl (okb b1) rfl (Yld.scut tab_ok rfl rfl rfl rfl (h3 b1).1 (h3 b1).2.1 (h3 b1).2.2) ?_
      refine WL.gyes rfl rfl (okb b1) rfl (Yld.pure tab_ok rfl) ?_
      refine WL.gyes rfl rfl (okb b1) rfl (Yld.pure tab_ok rfl) ?_
      refine WL.y rfl (Yld.pickT (okb b1) rfl) ?_
      exact WL.weaken (by repeat (first | exact Sub.nil | refine Sub.cons rfl ?_)) (hQ _ _ ⟨decide (((s.drop i.toNat).take ((i + (what.length : Int)).toNat - i.toNat)) = what), rfl, by rw [b1] <;> rfl, rfl⟩)
    · refine WL.gno rfl rfl (okb b1) rfl ?_
      refine WL.gno rfl rfl (okb b1) rfl ?_
      refine WL.gno rfl rfl (okb b1) rfl ?_
      refine WL.gno rfl rfl (okb b1) rfl ?_
      refine WL.gno rfl rfl (okb b1) rfl ?_
      refine WL.gno rfl rfl (okb b1) rfl ?_
      refine WL.gno rfl rfl (okb b1) rfl ?_
      refine WL.gno rfl rfl (okb b1) rfl ?_
      refine WL.gno rfl rfl (okb b1) rfl ?_
      refine WL.y rfl (Yld.pickF (okb b1) rfl) ?_
      exact WL.weaken (by repeat (first | exact Sub.nil | refine Sub.cons rfl ?_)) (hQ _ _ ⟨false, rfl, by rw [b1] <;> rfl, rfl⟩)

set_option maxHeartbeats 8000000 in
theorem W_smithyref11_texts {w : World} {l : List (List UInt8)} {A_l : Option Addr} {c_l : Nat} {n_l : Nat} {K : (List (List UInt8)) → Int → Prop} (hl : Rd vs w A_l c_l l) (hn_l : n_l = l.length) (H : M_smithyref11_texts l K) : Fn Tryd.prog 68 ⟨[.slice A_l n_l c_l]⟩ w (fun v w' => w = w' ∧ ∃ (r0 : List (List UInt8)), ∃ (A_r0 : Option Addr), ∃ (c_r0 : Nat), ∃ (r1 : Int), v = .tuple #[.slice A_r0 r0.length c_r0, .int .i64 r1] ∧ Rd vs w' A_r0 c_r0 r0 ∧ Orig (r0 ≠ []) (blk A_r0) w.heap.size [(l ≠ [], blk A_l)] ∧ K r0 r1) := by
  subst hn_l
  unfold M_smithyref11_texts at H
  refine Fn.enter (by kernel_rfl) Tryd.func68 rfl Tryd.ntmps68 rfl ?_
  replace H := H (Nat.le_trans hl.cap hl.max)
  refine WC.seq ?_
  refine WC.region ?_
  refine WL.y rfl (Yld.pure tab_ok rfl) ?_
  refine WL.y rfl (Yld.pure tab_ok rfl) ?_
  refine WL.nil (WX.then_normal ?_)
  refine WC.seq ?_
  refine WC.seq ?_
  refine WC.region ?_
  refine WL.y rfl (Yld.pure tab_ok rfl) ?_
  refine WL.y rfl (Yld.pure tab_ok rfl) ?_
  refine WL.y rfl (Yld.pure tab_ok rfl) ?_
  refine WL.nil (WX.then_normal ?_)
  refine WC.cond rfl (fun b1 => ?_) (fun b1 => ?_)
  · replace H := H.1 (of_decide_eq_true b1)
    refine WC.seq ?_
    refine WC.region ?_
    refine WL.y rfl (Yld.pure tab_ok rfl) ?_
    refine WL.y rfl (Yld.pure tab_ok rfl) ?_
    refine WL.nil (WX.then_normal ?_)
    refine WC.ret (WX.then_ret ?_)
    exact WX.ret2 rfl rfl rfl ⟨rfl, [], none, 0, (108 : Int), rfl, (Own.nil vs w w.heap.size 9).rd, (Orig.new Ge.none), H⟩
  · replace H := H.2 (of_decide_eq_false b1)
    refine WC.skip (WX.then_normal ?_)
    refine WC.seq ?_
    refine WC.region ?_
    refine WL.y rfl (Yld.pure tab_ok rfl) ?_
    refine WL.y rfl (Yld.pure tab_ok rfl) ?_
    refine WL.y rfl (Yld.pure tab_ok rfl) ?_
    refine WL.nil (WX.then_normal ?_)
    refine WC.ret ?_
    exact WX.ret2 rfl rfl rfl ⟨rfl, l, A_l, c_l, (0 : Int), rfl, hl, (Orig.par (List.Mem.head _)), H⟩

set_option maxHeartbeats 8000000 in
theorem W_smithyref11_blank {w : World} {c : Int} {K : Bool → Prop} (H : M_smithyref11_blank c K) : Fn Tryd.prog 70 ⟨[.int .u8 c]⟩ w (fun v w' => w = w' ∧ ∃ (r : Bool), v = .bool r ∧ K r) := by
  unfold M_smithyref11_blank at H
  refine Fn.enter (by kernel_rfl) Tryd.func70 rfl Tryd.ntmps70 rfl ?_
  refine WC.seq ?_
  refine WC.region ?_
  refine WL.y rfl (Yld.pure tab_ok rfl) ?_
  refine WL.nil (WX.then_normal ?_)
  refine WC.seq ?_
  refine WC.region ?_
  refine WL.y rfl (Yld.pure tab_ok rfl) ?_
  refine WL.y rfl (Yld.pure tab_ok rfl) ?_
  refine WL.y rfl (Yld.pure tab_ok rfl) ?_
  refine WL.midF 7 (fun L' w' => ∃ q1 : Bool, L' = [(12, .bool q1)] ∧ q1 = ((decide (c = (32 : Int))) || ((decide ((9 : Int) ≤ c)) && (decide (c ≤ (13 : Int))))) ∧ w = w') ?_ (fun hQ => ?_)
  · rintro _ _ ⟨q1, rfl, rfl, rfl⟩
    refine WL.y rfl (Yld.pure tab_ok rfl) ?_
    refine WL.nil (WX.then_normal ?_)
    refine WC.ret ?_
    exact WX.ret1 rfl rfl ⟨rfl, (decide (c = (32 : Int))) || ((decide ((9 : Int) ≤ c)) && (decide (c ≤ (13 : Int)))), rfl, H⟩
  · clear H
    rcases Bool.eq_false_or_eq_true (decide (c = (32 : Int))) with b1 | b1
    · refine WL.gno rfl rfl (okb b1) rfl ?_
      refine WL.gno rfl rfl (okb b1) rfl ?_
      refine WL.gno rfl rfl (okb b1) rfl ?_
      refine WL.gun rfl rfl rfl rfl ?_
      refine WL.gun rfl rfl rfl rfl ?_
      refine WL.gno rfl rfl (okb b1) rfl ?_
      refine WL.y rfl (Yld.pickT (okb b1) rfl) ?_
      exact WL.weaken (by repeat (first | exact Sub.nil | refine Sub.cons rfl ?_)) (hQ _ _ ⟨true, rfl, by rw [b1] <;> rfl, rfl⟩)
    · refine WL.gyes rfl rfl (okb b1) rfl (Yld.pure tab_ok rfl) ?_
      refine WL.gyes rfl rfl (okb b1) rfl (Yld.pure tab_ok rfl) ?_
      refine WL.gyes rfl rfl (okb b1) rfl (Yld.pure tab_ok rfl) ?_
      rcases Bool.eq_false_or_eq_true (decide ((9 : Int) ≤ c)) with b2 | b2
      · refine WL.gyes rfl rfl (okb b2) rfl (Yld.pure tab_ok rfl) ?_
        refine WL.gyes rfl rfl (okb b2) rfl (Yld.pure tab_ok rfl) ?_
        refine WL.gyes rfl rfl (okb b1) rfl (Yld.pickT (okb b2) rfl) ?_
        refine WL.y rfl (Yld.pickF (okb b1) rfl) ?_
        exact WL.weaken (by repeat (first | exact Sub.nil | refine Sub.cons rfl ?_)) (hQ _ _ ⟨decide (c ≤ (13 : Int)), rfl, by rw [b1, b2] <;> rfl, rfl⟩)
      · refine WL.gno rfl rfl (okb b2) rfl ?_
        refine WL.gno rfl rfl (okb b2) rfl ?_
        refine WL.gyes rfl rfl (okb b1) rfl (Yld.pickF (okb b2) rfl) ?_
        refine WL.y rfl (Yld.pickF (okb b1) rfl) ?_
        exact WL.weaken (by repeat (first | exact Sub.nil | refine Sub.cons rfl ?_)) (hQ _ _ ⟨false, rfl, by rw [b1, b2] <;> rfl, rfl⟩)

set_option maxHeartbeats 8000000 in
theorem W_smithyref11_strips {w : World} {c : Int} {bytes : List UInt8} {K : Bool → Prop} (H : M_smithyref11_strips c bytes K) : Fn Tryd.prog 71 ⟨[.int .u8 c, vs bytes]⟩ w (fun v w' => w = w' ∧ ∃ (r : Bool), v = .bool r ∧ K r) := by
  unfold M_smithyref11_strips at H
  refine Fn.enter (by kernel_rfl) Tryd.func71 rfl Tryd.ntmps71 rfl ?_
  refine WC.seq ?_
  refine WC.region ?_
  refine WL.y rfl (Yld.pure tab_ok rfl) ?_
  refine WL.nil (WX.then_normal ?_)
  refine WC.seq ?_
  refine WC.seq ?_
  refine WC.region ?_
  refine WL.y rfl (Yld.pure tab_ok rfl) ?_
  refine WL.y rfl (Yld.pure tab_ok rfl) ?_
  refine WL.nil (WX.then_normal ?_)
  refine WC.cond rfl (fun b1 => ?_) (fun b1 => ?_)
  · replace H := H.1 (of_decide_eq_true b1)
    refine WC.seq ?_
    refine WC.region ?_
    refine WL.y rfl (Yld.pure tab_ok rfl) ?_
    refine WL.call rfl rfl (W_smithyref11_blank H) ?_
    rintro _ _ ⟨rfl, t4, rfl, H⟩
    refine WL.y rfl (Yld.pure tab_ok rfl) ?_
    refine WL.nil (WX.then_normal ?_)
    refine WC.ret (WX.then_ret ?_)
    exact WX.ret1 rfl rfl ⟨rfl, t4, rfl, H⟩
  · replace H := H.2 (of_decide_eq_false b1)
    refine WC.skip (WX.then_normal ?_)
    refine WC.seq ?_
    refine WC.seq ?_
    refine WC.region ?_
    refine WL.y rfl (Yld.pure tab_ok rfl) ?_
    refine WL.nil (WX.then_normal ?_)
    refine WC.block ?_
    obtain ⟨I1, mu1, h0_1, HR1⟩ := H
    refine WC.loopF (fun n' L' w' => ∃ (i : Int), n' = mu1 i ∧ L' = [(0, .int .u8 c), (1, vs bytes), (5, .int .i64 i)] ∧ I1 i ∧ w = w') _ _ ⟨(0 : Int), rfl, rfl, h0_1, rfl⟩ (by repeat (first | exact Sub.nil | refine Sub.cons rfl ?_)) ?_
    clear h0_1
    rintro _ _ _ ⟨i, rfl, rfl, hI1, rfl⟩
    have H := HR1 i hI1
    refine WC.seq ?_
    refine WC.seq ?_
    refine WC.region ?_
    refine WL.y rfl (Yld.pure tab_ok rfl) ?_
    refine WL.y rfl (Yld.pure tab_ok rfl) ?_
    refine WL.y rfl (Yld.pure tab_ok rfl) ?_
    refine WL.y rfl (Yld.pure tab_ok rfl) ?_
    refine WL.nil (WX.then_normal ?_)
    refine WC.cond rfl (fun b2 => ?_) (fun b2 => ?_)
    · replace H := H.1 (of_decide_eq_true b2)
      refine WC.skip (WX.then_normal ?_)
      refine WC.seq ?_
      refine WC.block ?_
      refine WC.seq ?_
      refine WC.region ?_
      refine WL.y rfl (Yld.pure tab_ok rfl) ?_
      refine WL.y rfl (Yld.pure tab_ok rfl) ?_
      obtain ⟨h1, H⟩ := H
      refine WL.y rfl (Yld.sidx tab_ok rfl rfl rfl h1.1 h1.2) ?_
      refine WL.y rfl (Yld.pure tab_ok rfl) ?_
      refine WL.y rfl (Yld.pure tab_ok rfl) ?_
      refine WL.nil (WX.then_normal ?_)
      refine WC.cond rfl (fun b3 => ?_) (fun b3 => ?_)
      · replace H := H.1 (of_decide_eq_true b3)
        refine WC.seq ?_
        refine WC.region ?_
        refine WL.y rfl (Yld.pure tab_ok rfl) ?_
        refine WL.nil (WX.then_normal ?_)
        refine WC.ret (WX.block_ret (WX.then_ret (WX.then_ret (WX.block_ret (WX.then_ret ?_)))))
        exact WX.ret1 rfl rfl ⟨rfl, true, rfl, H⟩
      · replace H := H.2 (of_decide_eq_false b3)
        refine WC.skip (WX.block_normal (WX.then_normal ?_))
        refine WC.region ?_
        refine WL.y rfl (Yld.pure tab_ok rfl) ?_
        obtain ⟨h2, H⟩ := H
        refine WL.y rfl (Yld.add rfl rfl h2) ?_
        refine WL.y rfl (Yld.pure tab_ok rfl) ?_
        refine WL.nil ?_
        exact WX.roundF _ ⟨i + (1 : Int), rfl, rfl, H.1, rfl⟩ (by repeat (first | exact Sub.nil | refine Sub.cons rfl ?_)) H.2
    · replace H := H.2 (of_decide_eq_false b2)
      refine WC.exit (WX.then_exit (WX.then_exit (WX.block_same (WX.then_normal ?_))))
      refine WC.seq ?_
      refine WC.region ?_
      refine WL.y rfl (Yld.pure tab_ok rfl) ?_
      refine WL.nil (WX.then_normal ?_)
      refine WC.ret ?_
      exact WX.ret1 rfl rfl ⟨rfl, false, rfl, H⟩

set_option maxHeartbeats 8000000 in
theorem W_smithyref11_bound {w : World} {n : Int} {i : Int} {K : Int → Prop} (H : M_smithyref11_bound n i K) : Fn Tryd.prog 69 ⟨[.int .i64 n, .int .i64 i]⟩ w (fun v w' => w = w' ∧ ∃ (r : Int), v = .int .i64 r ∧ K r) := by
  unfold M_smithyref11_bound at H
  refine Fn.enter (by kernel_rfl) Tryd.func69 rfl Tryd.ntmps69 rfl ?_
  refine WC.seq ?_
  refine WC.region ?_
  refine WL.y rfl (Yld.pure tab_ok rfl) ?_
  refine WL.nil (WX.then_normal ?_)
  refine WC.seq ?_
  refine WC.seq ?_
  refine WC.region ?_
  refine WL.y rfl (Yld.pure tab_ok rfl) ?_
  refine WL.y rfl (Yld.pure tab_ok rfl) ?_
  refine WL.nil (WX.then_normal ?_)
  refine WC.cond rfl (fun b1 => ?_) (fun b1 => ?_)
  · replace H := H.1 (of_decide_eq_true b1)
    refine WC.seq ?_
    refine WC.seq ?_
    refine WC.region ?_
    refine WL.y rfl (Yld.pure tab_ok rfl) ?_
    refine WL.y rfl (Yld.pure tab_ok rfl) ?_
    obtain ⟨h1, H⟩ := H
    refine WL.y rfl (Yld.neg tab_ok rfl h1) ?_
    refine WL.y rfl (Yld.pure tab_ok rfl) ?_
    refine WL.nil (WX.then_normal ?_)
    refine WC.cond rfl (fun b2 => ?_) (fun b2 => ?_)
    · replace H := H.1 (of_decide_eq_true b2)
      refine WC.seq ?_
      refine WC.region ?_
      refine WL.y rfl (Yld.pure tab_ok rfl) ?_
      refine WL.nil (WX.then_normal ?_)
      refine WC.ret (WX.then_ret (WX.then_ret ?_))
      exact WX.ret1 rfl rfl ⟨rfl, (0 : Int), rfl, H⟩
    · replace H := H.2 (of_decide_eq_false b2)
      refine WC.skip (WX.then_normal ?_)
      refine WC.seq ?_
      refine WC.region ?_
      refine WL.y rfl (Yld.pure tab_ok rfl) ?_
      refine WL.y rfl (Yld.pure tab_ok rfl) ?_
      obtain ⟨h2, H⟩ := H
      refine WL.y rfl (Yld.add rfl rfl h2) ?_
      refine WL.y rfl (Yld.pure tab_ok rfl) ?_
      refine WL.nil (WX.then_normal ?_)
      refine WC.ret (WX.then_ret ?_)
      exact WX.ret1 rfl rfl ⟨rfl, n + i, rfl, H⟩
  · replace H := H.2 (of_decide_eq_false b1)
    refine WC.skip (WX.then_normal ?_)
    refine WC.seq ?_
    refine WC.region ?_
    refine WL.y rfl (Yld.pure tab_ok rfl) ?_
    refine WL.y rfl (Yld.pure tab_ok rfl) ?_
    refine WL.y rfl (Yld.min2 rfl rfl) ?_
    refine WL.y rfl (Yld.pure tab_ok rfl) ?_
    refine WL.nil (WX.then_normal ?_)
    refine WC.ret ?_
    exact WX.ret1 rfl rfl ⟨rfl, (if n < i then n else i), rfl, H⟩

set_option maxHeartbeats 8000000 in
theorem W_smithyref11_Split {w : World} {s : List UInt8} {by_ : List UInt8} {most : Int} {K : (List (List UInt8)) → Int → Prop} (H : M_smithyref11_Split s by_ most K) : Fn Tryd.prog 32 ⟨[vs s, vs by_, .int .i64 most]⟩ w (fun v w' => w.grownBy w' none ∧ ∃ (r0 : List (List UInt8)), ∃ (A_r0 : Option Addr), ∃ (c_r0 : Nat), ∃ (r1 : Int), v = .tuple #[.slice A_r0 r0.length c_r0, .int .i64 r1] ∧ Rd vs w' A_r0 c_r0 r0 ∧ Orig (r0 ≠ []) (blk A_r0) w.heap.size [] ∧ K r0 r1) := by
  unfold M_smithyref11_Split at H
  refine Fn.enter (by kernel_rfl) Tryd.func32 rfl Tryd.ntmps32 rfl ?_
  refine WC.seq ?_
  refine WC.region ?_
  refine WL.y rfl (Yld.pure tab_ok rfl) ?_
  refine WL.y rfl (Yld.pure tab_ok rfl) ?_
  refine WL.nil (WX.then_normal ?_)
  refine WC.seq ?_
  refine WC.seq ?_
  refine WC.region ?_
  refine WL.y rfl (Yld.pure tab_ok rfl) ?_
  refine WL.y rfl (Yld.pure tab_ok rfl) ?_
  refine WL.nil (WX.then_normal ?_)
  refine WC.cond rfl (fun b1 => ?_) (fun b1 => ?_)
  · replace H := H.1 (of_decide_eq_true b1)
    refine WC.seq ?_
    refine WC.region ?_
    refine WL.y rfl (Yld.pure tab_ok rfl) ?_
    refine WL.y rfl (Yld.pure tab_ok rfl) ?_
    refine WL.nil (WX.then_normal ?_)
    refine WC.ret (WX.then_ret ?_)
    exact WX.ret2 rfl rfl rfl ⟨(gr_refl _ _), [], none, 0, (104 : Int), rfl, (Own.nil vs w w.heap.size 9).rd, (Orig.new Ge.none), H⟩
  · replace H := H.2 (of_decide_eq_false b1)
    refine WC.skip (WX.then_normal ?_)
    refine WC.seq ?_
    refine WC.region ?_
    refine WL.y rfl (Yld.pure tab_ok rfl) ?_
    refine WL.nil (WX.then_normal ?_)
    refine WC.seq ?_
    refine WC.region ?_
    refine WL.y rfl (Yld.pure tab_ok rfl) ?_
    refine WL.nil (WX.then_normal ?_)
    refine WC.seq ?_
    refine WC.region ?_
    refine WL.y rfl (Yld.pure tab_ok rfl) ?_
    refine WL.nil (WX.then_normal ?_)
    refine WC.seq ?_
    refine WC.region ?_
    refine WL.y rfl (Yld.pure tab_ok rfl) ?_
    refine WL.nil (WX.then_normal ?_)
    refine WC.seq ?_
    refine WC.block ?_
    obtain ⟨I1, mu1, h0_1, HR1⟩ := H
    refine WC.loopF (fun n' L' w' => ∃ (l : List (List UInt8)), ∃ (A_l : Option Addr), ∃ (c_l : Nat), ∃ (n_l : Nat), ∃ (from_ : Int), ∃ (cuts : Int), ∃ (i : Int), n' = mu1 l from_ cuts i ∧ L' = [(0, vs s), (1, vs by_), (2, .int .i64 most), (8, .slice A_l n_l c_l), (9, .int .i64 from_), (10, .int .i64 cuts), (11, .int .i64 i)] ∧ I1 l from_ cuts i ∧ n_l = l.length ∧ w.grownBy w' none ∧ Own vs w' w.heap.size 9 A_l c_l l) _ _ ⟨[], none, 0, 0, (0 : Int), (0 : Int), (0 : Int), rfl, rfl, h0_1, rfl, (gr_refl _ _), (Own.nil vs w w.heap.size 9)⟩ (by repeat (first | exact Sub.nil | refine Sub.cons rfl ?_)) ?_
    clear h0_1
    rintro _ _ w1 ⟨l, A_l, c_l, n_l, from_, cuts, i, rfl, rfl, hI1, rfl, gr1, k1⟩
    have H := HR1 l from_ cuts i hI1
    refine WC.seq ?_
    refine WC.seq ?_
    refine WC.region ?_
    refine WL.y rfl (Yld.pure tab_ok rfl) ?_
    refine WL.y rfl (Yld.pure tab_ok rfl) ?_
    refine WL.y rfl (Yld.pure tab_ok rfl) ?_
    refine WL.y rfl (Yld.pure tab_ok rfl) ?_
    refine WL.nil (WX.then_normal ?_)
    refine WC.cond rfl (fun b2 => ?_) (fun b2 => ?_)
    · replace H := H.1 (of_decide_eq_true b2)
      refine WC.skip (WX.then_normal ?_)
      refine WC.block ?_
      refine WC.seq ?_
      refine WC.seq ?_
      refine WC.region ?_
      refine WL.y rfl (Yld.pure tab_ok rfl) ?_
      refine WL.y rfl (Yld.pure tab_ok rfl) ?_
      refine WL.y rfl (Yld.pure tab_ok rfl) ?_
      refine WL.call rfl rfl (W_smithyref11_at H) ?_
      rintro _ _ ⟨rfl, t21, rfl, H⟩
      refine WL.y rfl (Yld.pure tab_ok rfl) ?_
      refine WL.midF 8 (fun L' w' => ∃ q1 : Bool, L' = [(30, .bool q1), (0, vs s), (1, vs by_), (2, .int .i64 most), (8, .slice A_l l.length c_l), (9, .int .i64 from_), (10, .int .i64 cuts), (11, .int .i64 i)] ∧ q1 = (t21 && ((decide (most < (0 : Int))) || (decide (cuts < most)))) ∧ w1 = w') ?_ (fun hQ => ?_)
      · rintro _ _ ⟨q1, rfl, rfl, rfl⟩
        refine WL.nil (WX.then_normal ?_)
        refine WC.cond rfl (fun b3 => ?_) (fun b3 => ?_)
        · replace H := H.1 (b3)
          refine WC.seq ?_
          refine WC.region ?_
          refine WL.y rfl (Yld.pure tab_ok rfl) ?_
          refine WL.y rfl (Yld.pure tab_ok rfl) ?_
          refine WL.y rfl (Yld.pure tab_ok rfl) ?_
          refine WL.y rfl (Yld.pure tab_ok rfl) ?_
          obtain ⟨h1, H⟩ := H
          refine WL.y rfl (Yld.scut tab_ok rfl rfl rfl rfl h1.1 h1.2.1 h1.2.2) ?_
          refine WL.lit tab_ok rfl rfl rfl (all1c rfl all1n) rfl (by omega) (fun g1 w2 hB1 hg1 hl1 => ?_)
          have hO1 : Own vs w2 w.heap.size 9 (some ⟨g1, 0, none⟩) 1 ([(s.drop from_.toNat).take (i.toNat - from_.toNat)] : List (List UInt8)) := Own.ofBl hB1 (Nat.le_trans (size_le gr1) hl1) (by simp [maxLen]) rfl
          have gr2 := gr_trans gr1 hg1
          have k2 := k1.grown hg1
          obtain ⟨h2, H⟩ := H
          refine WL.append tab_ok rfl rfl One.s k2 rfl rfl hO1.rd rfl rfl h2 (applen h2) (size_le gr2) (fun A_l2 c_l2 w3 hO2 hg2 hk1 => ?_)
          have gr3 := gr_mod gr2 hg2 k2.ge'
          refine WL.y rfl (Yld.pure tab_ok rfl) ?_
          refine WL.nil (WX.then_normal ?_)
          refine WC.seq ?_
          refine WC.region ?_
          refine WL.y rfl (Yld.pure tab_ok rfl) ?_
          refine WL.y rfl (Yld.pure tab_ok rfl) ?_
          refine WL.y rfl (Yld.pure tab_ok rfl) ?_
          obtain ⟨h3, H⟩ := H
          refine WL.y rfl (Yld.add rfl rfl h3) ?_
          refine WL.y rfl (Yld.pure tab_ok rfl) ?_
          refine WL.nil (WX.then_normal ?_)
          refine WC.seq ?_
          refine WC.region ?_
          refine WL.y rfl (Yld.pure tab_ok rfl) ?_
          refine WL.y rfl (Yld.pure tab_ok rfl) ?_
          refine WL.nil (WX.then_normal ?_)
          refine WC.seq ?_
          refine WC.region ?_
          refine WL.y rfl (Yld.pure tab_ok rfl) ?_
          obtain ⟨h4, H⟩ := H
          refine WL.y rfl (Yld.add rfl rfl h4) ?_
          refine WL.y rfl (Yld.pure tab_ok rfl) ?_
          refine WL.nil (WX.then_normal ?_)
          refine WC.exit (WX.then_exit (WX.block_same ?_))
          exact WX.roundF _ ⟨l ++ ([(s.drop from_.toNat).take (i.toNat - from_.toNat)] : List (List UInt8)), A_l2, c_l2, (l ++ ([(s.drop from_.toNat).take (i.toNat - from_.toNat)] : List (List UInt8))).length, i + (by_.length : Int), cuts + (1 : Int), i + (by_.length : Int), rfl, rfl, H.1, rfl, gr3, hO2⟩ (by repeat (first | exact Sub.nil | refine Sub.cons rfl ?_)) H.2
        · replace H := H.2 (b3)
          refine WC.skip (WX.then_normal ?_)
          refine WC.region ?_
          refine WL.y rfl (Yld.pure tab_ok rfl) ?_
          obtain ⟨h5, H⟩ := H
          refine WL.y rfl (Yld.add rfl rfl h5) ?_
          refine WL.y rfl (Yld.pure tab_ok rfl) ?_
          refine WL.nil (WX.block_normal ?_)
          exact WX.roundF _ ⟨l, A_l, c_l, l.length, from_, cuts, i + (1 : Int), rfl, rfl, H.1, rfl, gr1, k1⟩ (by repeat (first | exact Sub.nil | refine Sub.cons rfl ?_)) H.2
      · clear H
        rcases Bool.eq_false_or_eq_true (t21) with b4 | b4
        · refine WL.gyes rfl rfl (okb b4) rfl (Yld.pure tab_ok rfl) ?_
          refine WL.gyes rfl rfl (okb b4) rfl (Yld.pure tab_ok rfl) ?_
          refine WL.gyes rfl rfl (okb b4) rfl (Yld.pure tab_ok rfl) ?_
          rcases Bool.eq_false_or_eq_true (decide (most < (0 : Int))) with b5 | b5
          · refine WL.gno rfl rfl (okb b5) rfl ?_
            refine WL.gno rfl rfl (okb b5) rfl ?_
            refine WL.gno rfl rfl (okb b5) rfl ?_
            refine WL.gyes rfl rfl (okb b4) rfl (Yld.pickT (okb b5) rfl) ?_
            refine WL.y rfl (Yld.pickT (okb b4) rfl) ?_
            exact WL.weaken (by repeat (first | exact Sub.nil | refine Sub.cons rfl ?_)) (hQ _ _ ⟨true, rfl, by rw [b4, b5] <;> rfl, rfl⟩)
          · refine WL.gyes rfl rfl (okb b5) rfl (Yld.pure tab_ok rfl) ?_
            refine WL.gyes rfl rfl (okb b5) rfl (Yld.pure tab_ok rfl) ?_
            refine WL.gyes rfl rfl (okb b5) rfl (Yld.pure tab_ok rfl) ?_
            refine WL.gyes rfl rfl (okb b4) rfl (Yld.pickF (okb b5) rfl) ?_
            refine WL.y rfl (Yld.pickT (okb b4) rfl) ?_
            exact WL.weaken (by repeat (first | exact Sub.nil | refine Sub.cons rfl ?_)) (hQ _ _ ⟨decide (cuts < most), rfl, by rw [b4, b5] <;> rfl, rfl⟩)
        · refine WL.gno rfl rfl (okb b4) rfl ?_
          refine WL.gno rfl rfl (okb b4) rfl ?_
          refine WL.gno rfl rfl (okb b4) rfl ?_
          refine WL.gun rfl rfl rfl rfl ?_
          refine WL.gun rfl rfl rfl rfl ?_
          refine WL.gun rfl rfl rfl rfl ?_
          refine WL.gno rfl rfl (okb b4) rfl ?_
          refine WL.y rfl (Yld.pickF (okb b4) rfl) ?_
          exact WL.weaken (by repeat (first | exact Sub.nil | refine Sub.cons rfl ?_)) (hQ _ _ ⟨false, rfl, by rw [b4] <;> rfl, rfl⟩)
    · replace H := H.2 (of_decide_eq_false b2)
      refine WC.exit (WX.then_exit (WX.then_exit (WX.block_same (WX.then_normal ?_))))
      refine WC.seq ?_
      refine WC.region ?_
      refine WL.y rfl (Yld.pure tab_ok rfl) ?_
      refine WL.y rfl (Yld.pure tab_ok rfl) ?_
      refine WL.y rfl (Yld.pure tab_ok rfl) ?_
      obtain ⟨h6, H⟩ := H
      refine WL.y rfl (Yld.scutF tab_ok rfl rfl rfl h6.1 h6.2) ?_
      refine WL.lit tab_ok rfl rfl rfl (all1c rfl all1n) rfl (by omega) (fun g2 w4 hB2 hg3 hl2 => ?_)
      have hO3 : Own vs w4 w.heap.size 9 (some ⟨g2, 0, none⟩) 1 ([s.drop from_.toNat] : List (List UInt8)) := Own.ofBl hB2 (Nat.le_trans (size_le gr1) hl2) (by simp [maxLen]) rfl
      have gr4 := gr_trans gr1 hg3
      have k3 := k1.grown hg3
      obtain ⟨h7, H⟩ := H
      refine WL.append tab_ok rfl rfl One.s k3 rfl rfl hO3.rd rfl rfl h7 (applen h7) (size_le gr4) (fun A_t52 c_t52 w5 hO4 hg4 hk2 => ?_)
      have gr5 := gr_mod gr4 hg4 k3.ge'
      refine WL.call rfl rfl (W_smithyref11_texts hO4.rd rfl H) ?_
      rintro _ _ ⟨rfl, t530, A_t530, c_t530, t531, rfl, ht530, ho1, H⟩
      refine WL.y rfl (Yld.pure tab_ok rfl) ?_
      refine WL.y rfl (Yld.pure tab_ok rfl) ?_
      refine WL.y rfl (Yld.pure tab_ok rfl) ?_
      refine WL.y rfl (Yld.pure tab_ok rfl) ?_
      refine WL.nil (WX.then_normal ?_)
      refine WC.ret ?_
      exact WX.ret2 rfl rfl rfl ⟨gr5, t530, A_t530, c_t530, t531, rfl, ht530, (Orig.trans ho1 (size_le gr5) (orC (Orig.new hO4.ge') orN)), H⟩

set_option maxHeartbeats 8000000 in
theorem W_smithyref11_Words {w : World} {s : List UInt8} {K : (List (List UInt8)) → Prop} (H : M_smithyref11_Words s K) : Fn Tryd.prog 37 ⟨[vs s]⟩ w (fun v w' => w.grownBy w' none ∧ ∃ (r : List (List UInt8)), ∃ (A_r : Option Addr), ∃ (c_r : Nat), v = .slice A_r r.length c_r ∧ Own vs w' w.heap.size 9 A_r c_r r ∧ K r) := by
  unfold M_smithyref11_Words at H
  refine Fn.enter (by kernel_rfl) Tryd.func37 rfl Tryd.ntmps37 rfl ?_
  refine WC.seq ?_
  refine WC.region ?_
  refine WL.y rfl (Yld.pure tab_ok rfl) ?_
  refine WL.nil (WX.then_normal ?_)
  refine WC.seq ?_
  refine WC.region ?_
  refine WL.y rfl (Yld.pure tab_ok rfl) ?_
  refine WL.nil (WX.then_normal ?_)
  refine WC.seq ?_
  refine WC.region ?_
  refine WL.y rfl (Yld.pure tab_ok rfl) ?_
  refine WL.nil (WX.then_normal ?_)
  refine WC.seq ?_
  refine WC.seq ?_
  refine WC.region ?_
  refine WL.y rfl (Yld.pure tab_ok rfl) ?_
  refine WL.nil (WX.then_normal ?_)
  refine WC.block ?_
  obtain ⟨I1, mu1, h0_1, HR1⟩ := H
  refine WC.loopF (fun n' L' w' => ∃ (l : List (List UInt8)), ∃ (A_l : Option Addr), ∃ (c_l : Nat), ∃ (n_l : Nat), ∃ (from_ : Int), ∃ (i : Int), n' = mu1 l from_ i ∧ L' = [(0, vs s), (3, .slice A_l n_l c_l), (4, .int .i64 from_), (5, .int .i64 i)] ∧ I1 l from_ i ∧ n_l = l.length ∧ w.grownBy w' none ∧ Own vs w' w.heap.size 9 A_l c_l l) _ _ ⟨[], none, 0, 0, (-1 : Int), (0 : Int), rfl, rfl, h0_1, rfl, (gr_refl _ _), (Own.nil vs w w.heap.size 9)⟩ (by repeat (first | exact Sub.nil | refine Sub.cons rfl ?_)) ?_
  clear h0_1
  rintro _ _ w1 ⟨l, A_l, c_l, n_l, from_, i, rfl, rfl, hI1, rfl, gr1, k1⟩
  have H := HR1 l from_ i hI1
  refine WC.seq ?_
  refine WC.seq ?_
  refine WC.region ?_
  refine WL.y rfl (Yld.pure tab_ok rfl) ?_
  refine WL.y rfl (Yld.pure tab_ok rfl) ?_
  refine WL.y rfl (Yld.pure tab_ok rfl) ?_
  refine WL.y rfl (Yld.pure tab_ok rfl) ?_
  refine WL.nil (WX.then_normal ?_)
  refine WC.cond rfl (fun b1 => ?_) (fun b1 => ?_)
  · replace H := H.1 (of_decide_eq_true b1)
    refine WC.skip (WX.then_normal ?_)
    refine WC.seq ?_
    obtain ⟨J1, H, hJ1⟩ := H
    refine WC.midF (fun L' w' => ∃ (l2 : List (List UInt8)), ∃ (A_l2 : Option Addr), ∃ (c_l2 : Nat), ∃ (n_l2 : Nat), ∃ (from_2 : Int), L' = [(0, vs s), (3, .slice A_l2 n_l2 c_l2), (4, .int .i64 from_2), (5, .int .i64 i)] ∧ J1 l2 from_2 ∧ n_l2 = l2.length ∧ w.grownBy w' none ∧ Own vs w' w.heap.size 9 A_l2 c_l2 l2) ?_ (fun hQ => ?_)
    · clear H
      rintro _ w2 ⟨l2, A_l2, c_l2, n_l2, from_2, rfl, H, rfl, gr2, k2⟩
      replace H := hJ1 l2 from_2 H
      refine WX.then_normal ?_
      refine WC.region ?_
      refine WL.y rfl (Yld.pure tab_ok rfl) ?_
      obtain ⟨h1, H⟩ := H
      refine WL.y rfl (Yld.add rfl rfl h1) ?_
      refine WL.y rfl (Yld.pure tab_ok rfl) ?_
      refine WL.nil ?_
      exact WX.roundF _ ⟨l2, A_l2, c_l2, l2.length, from_2, i + (1 : Int), rfl, rfl, H.1, rfl, gr2, k2⟩ (by repeat (first | exact Sub.nil | refine Sub.cons rfl ?_)) H.2
    · clear hJ1
      refine WC.block ?_
      refine WC.seq ?_
      refine WC.region ?_
      refine WL.y rfl (Yld.pure tab_ok rfl) ?_
      refine WL.y rfl (Yld.pure tab_ok rfl) ?_
      refine WL.y rfl (Yld.pure tab_ok rfl) ?_
      refine WL.y rfl (Yld.pure tab_ok rfl) ?_
      refine WL.y rfl (Yld.pure tab_ok rfl) ?_
      obtain ⟨J2, H, hJ2⟩ := H
      refine WL.midF 6 (fun L' w' => ∃ q1 : Bool, L' = [(23, .bool q1), (0, vs s), (3, .slice A_l l.length c_l), (4, .int .i64 from_), (5, .int .i64 i)] ∧ J2 q1 ∧ w1 = w') ?_ (fun hQ => ?_)
      · clear H
        rintro _ _ ⟨q1, rfl, H, rfl⟩
        replace H := hJ2 q1 H
        refine WL.y rfl (Yld.pure tab_ok rfl) ?_
        refine WL.nil (WX.then_normal ?_)
        refine WC.seq ?_
        obtain ⟨J3, H, hJ3⟩ := H
        refine WC.midF (fun L' w' => ∃ (from_3 : Int), L' = [(0, vs s), (3, .slice A_l l.length c_l), (4, .int .i64 from_3), (5, .int .i64 i), (6, .bool q1)] ∧ J3 from_3 ∧ w1 = w') ?_ (fun hQ => ?_)
        · clear H
          rintro _ _ ⟨from_3, rfl, H, rfl⟩
          replace H := hJ3 from_3 H
          refine WX.then_normal ?_
          refine WC.seq ?_
          refine WC.region ?_
          refine WL.y rfl (Yld.pure tab_ok rfl) ?_
          refine WL.y rfl (Yld.pure tab_ok rfl) ?_
          refine WL.y rfl (Yld.pure tab_ok rfl) ?_
          refine WL.midF 3 (fun L' w' => ∃ q2 : Bool, L' = [(35, .bool q2), (0, vs s), (3, .slice A_l l.length c_l), (4, .int .i64 from_3), (5, .int .i64 i)] ∧ q2 = ((!q1) && (decide ((0 : Int) ≤ from_3))) ∧ w1 = w') ?_ (fun hQ => ?_)
          · rintro _ _ ⟨q2, rfl, rfl, rfl⟩
            refine WL.nil (WX.then_normal ?_)
            refine WC.cond rfl (fun b2 => ?_) (fun b2 => ?_)
            · replace H := H.1 (b2)
              refine WC.seq ?_
              refine WC.region ?_
              refine WL.y rfl (Yld.pure tab_ok rfl) ?_
              refine WL.y rfl (Yld.pure tab_ok rfl) ?_
              refine WL.y rfl (Yld.pure tab_ok rfl) ?_
              refine WL.y rfl (Yld.pure tab_ok rfl) ?_
              obtain ⟨h2, H⟩ := H
              refine WL.y rfl (Yld.scut tab_ok rfl rfl rfl rfl h2.1 h2.2.1 h2.2.2) ?_
              refine WL.lit tab_ok rfl rfl rfl (all1c rfl all1n) rfl (by omega) (fun g1 w3 hB1 hg1 hl1 => ?_)
              have hO1 : Own vs w3 w.heap.size 9 (some ⟨g1, 0, none⟩) 1 ([(s.drop from_3.toNat).take (i.toNat - from_3.toNat)] : List (List UInt8)) := Own.ofBl hB1 (Nat.le_trans (size_le gr1) hl1) (by simp [maxLen]) rfl
              have gr3 := gr_trans gr1 hg1
              have k3 := k1.grown hg1
              obtain ⟨h3, H⟩ := H
              refine WL.append tab_ok rfl rfl One.s k3 rfl rfl hO1.rd rfl rfl h3 (applen h3) (size_le gr3) (fun A_l3 c_l3 w4 hO2 hg2 hk1 => ?_)
              have gr4 := gr_mod gr3 hg2 k3.ge'
              refine WL.y rfl (Yld.pure tab_ok rfl) ?_
              refine WL.nil (WX.then_normal ?_)
              refine WC.region ?_
              refine WL.y rfl (Yld.pure tab_ok rfl) ?_
              refine WL.nil (WX.block_normal ?_)
              exact WX.weaken (by repeat (first | exact Sub.nil | refine Sub.cons rfl ?_)) (hQ _ _ ⟨l ++ ([(s.drop from_3.toNat).take (i.toNat - from_3.toNat)] : List (List UInt8)), A_l3, c_l3, (l ++ ([(s.drop from_3.toNat).take (i.toNat - from_3.toNat)] : List (List UInt8))).length, (-1 : Int), rfl, H, rfl, gr4, hO2⟩)
            · replace H := H.2 (b2)
              refine WC.skip (WX.block_normal ?_)
              exact WX.weaken (by repeat (first | exact Sub.nil | refine Sub.cons rfl ?_)) (hQ _ _ ⟨l, A_l, c_l, l.length, from_3, rfl, H, rfl, gr1, k1⟩)
          · clear H
            rcases Bool.eq_false_or_eq_true (!q1) with b3 | b3
            · refine WL.gyes rfl rfl (okb b3) rfl (Yld.pure tab_ok rfl) ?_
              refine WL.gyes rfl rfl (okb b3) rfl (Yld.pure tab_ok rfl) ?_
              refine WL.y rfl (Yld.pickT (okb b3) rfl) ?_
              exact WL.weaken (by repeat (first | exact Sub.nil | refine Sub.cons rfl ?_)) (hQ _ _ ⟨decide ((0 : Int) ≤ from_3), rfl, by rw [b3] <;> rfl, rfl⟩)
            · refine WL.gno rfl rfl (okb b3) rfl ?_
              refine WL.gno rfl rfl (okb b3) rfl ?_
              refine WL.y rfl (Yld.pickF (okb b3) rfl) ?_
              exact WL.weaken (by repeat (first | exact Sub.nil | refine Sub.cons rfl ?_)) (hQ _ _ ⟨false, rfl, by rw [b3] <;> rfl, rfl⟩)
        · clear hJ3
          refine WC.seq ?_
          refine WC.region ?_
          refine WL.y rfl (Yld.pure tab_ok rfl) ?_
          refine WL.y rfl (Yld.pure tab_ok rfl) ?_
          refine WL.midF 3 (fun L' w' => ∃ q3 : Bool, L' = [(28, .bool q3), (0, vs s), (3, .slice A_l l.length c_l), (4, .int .i64 from_), (5, .int .i64 i), (6, .bool q1)] ∧ q3 = (q1 && (decide (from_ < (0 : Int)))) ∧ w1 = w') ?_ (fun hQ => ?_)
          · rintro _ _ ⟨q3, rfl, rfl, rfl⟩
            refine WL.nil (WX.then_normal ?_)
            refine WC.cond rfl (fun b4 => ?_) (fun b4 => ?_)
            · replace H := H.1 (b4)
              refine WC.region ?_
              refine WL.y rfl (Yld.pure tab_ok rfl) ?_
              refine WL.y rfl (Yld.pure tab_ok rfl) ?_
              refine WL.nil ?_
              exact WX.weaken (by repeat (first | exact Sub.nil | refine Sub.cons rfl ?_)) (hQ _ _ ⟨i, rfl, H, rfl⟩)
            · replace H := H.2 (b4)
              refine WC.skip ?_
              exact WX.weaken (by repeat (first | exact Sub.nil | refine Sub.cons rfl ?_)) (hQ _ _ ⟨from_, rfl, H, rfl⟩)
          · clear H
            rcases Bool.eq_false_or_eq_true (q1) with b5 | b5
            · refine WL.gyes rfl rfl (okb b5) rfl (Yld.pure tab_ok rfl) ?_
              refine WL.gyes rfl rfl (okb b5) rfl (Yld.pure tab_ok rfl) ?_
              refine WL.y rfl (Yld.pickT (okb b5) rfl) ?_
              exact WL.weaken (by repeat (first | exact Sub.nil | refine Sub.cons rfl ?_)) (hQ _ _ ⟨decide (from_ < (0 : Int)), rfl, by rw [b5] <;> rfl, rfl⟩)
            · refine WL.gno rfl rfl (okb b5) rfl ?_
              refine WL.gno rfl rfl (okb b5) rfl ?_
              refine WL.y rfl (Yld.pickF (okb b5) rfl) ?_
              exact WL.weaken (by repeat (first | exact Sub.nil | refine Sub.cons rfl ?_)) (hQ _ _ ⟨false, rfl, by rw [b5] <;> rfl, rfl⟩)
      · clear hJ2
        rcases Bool.eq_false_or_eq_true (decide (i < (s.length : Int))) with b6 | b6
        · replace H := H.1 b6
          refine WL.gyes rfl rfl (okb b6) rfl (Yld.pure tab_ok rfl) ?_
          refine WL.gyes rfl rfl (okb b6) rfl (Yld.pure tab_ok rfl) ?_
          obtain ⟨h4, H⟩ := H
          refine WL.gyes rfl rfl (okb b6) rfl (Yld.sidx tab_ok rfl rfl rfl h4.1 h4.2) ?_
          refine WL.callw (wants_some rfl rfl (okb b6)) rfl rfl (W_smithyref11_blank H) ?_
          rintro _ _ ⟨rfl, t21, rfl, H⟩
          refine WL.gyes rfl rfl (okb b6) rfl (Yld.pure tab_ok rfl) ?_
          refine WL.y rfl (Yld.pickT (okb b6) rfl) ?_
          exact WL.weaken (by repeat (first | exact Sub.nil | refine Sub.cons rfl ?_)) (hQ _ _ ⟨!t21, rfl, H, rfl⟩)
        · replace H := H.2 b6
          refine WL.gno rfl rfl (okb b6) rfl ?_
          refine WL.gno rfl rfl (okb b6) rfl ?_
          refine WL.gno rfl rfl (okb b6) rfl ?_
          refine WL.gno rfl rfl (okb b6) rfl ?_
          refine WL.gno rfl rfl (okb b6) rfl ?_
          refine WL.y rfl (Yld.pickF (okb b6) rfl) ?_
          exact WL.weaken (by repeat (first | exact Sub.nil | refine Sub.cons rfl ?_)) (hQ _ _ ⟨false, rfl, H, rfl⟩)
  · replace H := H.2 (of_decide_eq_false b1)
    refine WC.exit (WX.then_exit (WX.then_exit (WX.block_same (WX.then_normal ?_))))
    refine WC.seq ?_
    refine WC.region ?_
    refine WL.y rfl (Yld.pure tab_ok rfl) ?_
    refine WL.y rfl (Yld.pure tab_ok rfl) ?_
    refine WL.nil (WX.then_normal ?_)
    refine WC.ret ?_
    exact WX.ret1 rfl rfl ⟨gr1, l, A_l, c_l, rfl, k1, H⟩

set_option maxHeartbeats 8000000 in
theorem W_smithyref11_Join {w : World} {by_ : List UInt8} {l : List (List UInt8)} {A_l : Option Addr} {c_l : Nat} {n_l : Nat} {K : (List UInt8) → Int → Prop} (hl : Rd vs w A_l c_l l) (hn_l : n_l = l.length) (H : M_smithyref11_Join by_ l K) : Fn Tryd.prog 33 ⟨[vs by_, .slice A_l n_l c_l]⟩ w (fun v w' => w.grownBy w' none ∧ ∃ (r0 : List UInt8), ∃ (r1 : Int), v = .tuple #[vs r0, .int .i64 r1] ∧ K r0 r1) := by
  subst hn_l
  unfold M_smithyref11_Join at H
  refine Fn.enter (by kernel_rfl) Tryd.func33 rfl Tryd.ntmps33 rfl ?_
  replace H := H (Nat.le_trans hl.cap hl.max)
  refine WC.seq ?_
  refine WC.region ?_
  refine WL.y rfl (Yld.pure tab_ok rfl) ?_
  refine WL.y rfl (Yld.pure tab_ok rfl) ?_
  refine WL.nil (WX.then_normal ?_)
  refine WC.seq ?_
  refine WC.region ?_
  refine WL.y rfl (Yld.pure tab_ok rfl) ?_
  refine WL.nil (WX.then_normal ?_)
  refine WC.seq ?_
  refine WC.seq ?_
  refine WC.region ?_
  refine WL.y rfl (Yld.pure tab_ok rfl) ?_
  refine WL.nil (WX.then_normal ?_)
  refine WC.block ?_
  obtain ⟨I1, mu1, h0_1, HR1⟩ := H
  refine WC.loopF (fun n' L' w' => ∃ (b : List UInt8), ∃ (A_b : Option Addr), ∃ (c_b : Nat), ∃ (n_b : Nat), ∃ (i : Int), n' = mu1 b i ∧ L' = [(0, vs by_), (1, .slice A_l l.length c_l), (6, .slice A_b n_b c_b), (7, .int .i64 i)] ∧ I1 b i ∧ n_b = b.length ∧ w.grownBy w' none ∧ Own vb w' w.heap.size 5 A_b c_b b) _ _ ⟨[], none, 0, 0, (0 : Int), rfl, rfl, h0_1, rfl, (gr_refl _ _), (Own.nil vb w w.heap.size 5)⟩ (by repeat (first | exact Sub.nil | refine Sub.cons rfl ?_)) ?_
  clear h0_1
  rintro _ _ w1 ⟨b, A_b, c_b, n_b, i, rfl, rfl, hI1, rfl, gr1, k1⟩
  have H := HR1 b i hI1
  refine WC.seq ?_
  refine WC.seq ?_
  refine WC.region ?_
  refine WL.y rfl (Yld.pure tab_ok rfl) ?_
  refine WL.y rfl (Yld.pure tab_ok rfl) ?_
  refine WL.y rfl (Yld.pure tab_ok rfl) ?_
  refine WL.y rfl (Yld.pure tab_ok rfl) ?_
  refine WL.nil (WX.then_normal ?_)
  refine WC.cond rfl (fun b1 => ?_) (fun b1 => ?_)
  · replace H := H.1 (of_decide_eq_true b1)
    refine WC.skip (WX.then_normal ?_)
    refine WC.seq ?_
    refine WC.block ?_
    refine WC.seq ?_
    obtain ⟨J1, H, hJ1⟩ := H
    refine WC.midF (fun L' w' => ∃ (b_2 : List UInt8), ∃ (A_b2 : Option Addr), ∃ (c_b2 : Nat), ∃ (n_b2 : Nat), L' = [(0, vs by_), (1, .slice A_l l.length c_l), (6, .slice A_b2 n_b2 c_b2), (7, .int .i64 i)] ∧ J1 b_2 ∧ n_b2 = b_2.length ∧ w.grownBy w' none ∧ Own vb w' w.heap.size 5 A_b2 c_b2 b_2) ?_ (fun hQ => ?_)
    · clear H
      rintro _ w2 ⟨b_2, A_b2, c_b2, n_b2, rfl, H, rfl, gr2, k2⟩
      replace H := hJ1 b_2 H
      refine WX.then_normal ?_
      refine WC.seq ?_
      refine WC.region ?_
      refine WL.y rfl (Yld.pure tab_ok rfl) ?_
      refine WL.y rfl (Yld.pure tab_ok rfl) ?_
      refine WL.y rfl (Yld.pure tab_ok rfl) ?_
      obtain ⟨h1, H⟩ := H
      refine WL.y rfl (Yld.iaddrW tab_ok (hl.grown gr2) rfl rfl rfl rfl h1.1 h1.2) ?_
      refine WL.y rfl (Yld.iload [] tab_ok (hl.grown gr2) rfl rfl (iltN h1 rfl)) ?_
      obtain ⟨h2, H⟩ := H
      refine WL.appendS tab_ok rfl rfl rfl k2 rfl rfl rfl h2 (applen h2) (size_le gr2) (fun A_b3 c_b3 w3 hO1 hg1 hk1 => ?_)
      have gr3 := gr_mod gr2 hg1 k2.ge'
      refine WL.y rfl (Yld.pure tab_ok rfl) ?_
      refine WL.nil (WX.then_normal ?_)
      refine WC.seq ?_
      refine WC.region ?_
      refine WL.y rfl (Yld.pure tab_ok rfl) ?_
      refine WL.y rfl (Yld.pure tab_ok rfl) ?_
      refine WL.y rfl (Yld.pure tab_ok rfl) ?_
      refine WL.nil (WX.then_normal ?_)
      refine WC.cond rfl (fun b2 => ?_) (fun b2 => ?_)
      · replace H := H.1 (of_decide_eq_true b2)
        refine WC.seq ?_
        refine WC.region ?_
        refine WL.y rfl (Yld.pure tab_ok rfl) ?_
        refine WL.y rfl (Yld.pure tab_ok rfl) ?_
        refine WL.nil (WX.then_normal ?_)
        refine WC.ret (WX.block_ret (WX.then_ret (WX.then_ret (WX.block_ret (WX.then_ret ?_)))))
        exact WX.ret2 rfl rfl rfl ⟨gr3, ([] : List UInt8), (108 : Int), rfl, H⟩
      · replace H := H.2 (of_decide_eq_false b2)
        refine WC.skip (WX.block_normal (WX.then_normal ?_))
        refine WC.region ?_
        refine WL.y rfl (Yld.pure tab_ok rfl) ?_
        obtain ⟨h3, H⟩ := H
        refine WL.y rfl (Yld.add rfl rfl h3) ?_
        refine WL.y rfl (Yld.pure tab_ok rfl) ?_
        refine WL.nil ?_
        exact WX.roundF _ ⟨b_2 ++ (l.getD i.toNat []), A_b3, c_b3, (b_2 ++ (l.getD i.toNat [])).length, i + (1 : Int), rfl, rfl, H.1, rfl, gr3, hO1⟩ (by repeat (first | exact Sub.nil | refine Sub.cons rfl ?_)) H.2
    · clear hJ1
      refine WC.seq ?_
      refine WC.region ?_
      refine WL.y rfl (Yld.pure tab_ok rfl) ?_
      refine WL.y rfl (Yld.pure tab_ok rfl) ?_
      refine WL.nil (WX.then_normal ?_)
      refine WC.cond rfl (fun b3 => ?_) (fun b3 => ?_)
      · replace H := H.1 (of_decide_eq_true b3)
        refine WC.region ?_
        refine WL.y rfl (Yld.pure tab_ok rfl) ?_
        refine WL.y rfl (Yld.pure tab_ok rfl) ?_
        obtain ⟨h4, H⟩ := H
        refine WL.appendS tab_ok rfl rfl rfl k1 rfl rfl rfl h4 (applen h4) (size_le gr1) (fun A_b4 c_b4 w4 hO2 hg2 hk2 => ?_)
        have gr4 := gr_mod gr1 hg2 k1.ge'
        refine WL.y rfl (Yld.pure tab_ok rfl) ?_
        refine WL.nil ?_
        exact WX.weaken (by repeat (first | exact Sub.nil | refine Sub.cons rfl ?_)) (hQ _ _ ⟨b ++ by_, A_b4, c_b4, (b ++ by_).length, rfl, H, rfl, gr4, hO2⟩)
      · replace H := H.2 (of_decide_eq_false b3)
        refine WC.skip ?_
        exact WX.weaken (by repeat (first | exact Sub.nil | refine Sub.cons rfl ?_)) (hQ _ _ ⟨b, A_b, c_b, b.length, rfl, H, rfl, gr1, k1⟩)
  · replace H := H.2 (of_decide_eq_false b1)
    refine WC.exit (WX.then_exit (WX.then_exit (WX.block_same (WX.then_normal ?_))))
    refine WC.seq ?_
    refine WC.region ?_
    refine WL.y rfl (Yld.pure tab_ok rfl) ?_
    refine WL.y rfl (Yld.b2s tab_ok k1.rd rfl rfl rfl rfl rfl) ?_
    refine WL.y rfl (Yld.pure tab_ok rfl) ?_
    refine WL.y rfl (Yld.pure tab_ok rfl) ?_
    refine WL.nil (WX.then_normal ?_)
    refine WC.ret ?_
    exact WX.ret2 rfl rfl rfl ⟨gr1, b, (0 : Int), rfl, H⟩

set_option maxHeartbeats 8000000 in
theorem W_smithyref11_Replace {w : World} {s : List UInt8} {old : List UInt8} {by_ : List UInt8} {most : Int} {K : (List UInt8) → Int → Prop} (H : M_smithyref11_Replace s old by_ most K) : Fn Tryd.prog 34 ⟨[vs s, vs old, vs by_, .int .i64 most]⟩ w (fun v w' => w.grownBy w' none ∧ ∃ (r0 : List UInt8), ∃ (r1 : Int), v = .tuple #[vs r0, .int .i64 r1] ∧ K r0 r1) := by
  unfold M_smithyref11_Replace at H
  refine Fn.enter (by kernel_rfl) Tryd.func34 rfl Tryd.ntmps34 rfl ?_
  refine WC.seq ?_
  refine WC.region ?_
  refine WL.y rfl (Yld.pure tab_ok rfl) ?_
  refine WL.y rfl (Yld.pure tab_ok rfl) ?_
  refine WL.nil (WX.then_normal ?_)
  refine WC.seq ?_
  refine WC.region ?_
  refine WL.y rfl (Yld.pure tab_ok rfl) ?_
  refine WL.nil (WX.then_normal ?_)
  refine WC.seq ?_
  refine WC.region ?_
  refine WL.y rfl (Yld.pure tab_ok rfl) ?_
  refine WL.nil (WX.then_normal ?_)
  refine WC.seq ?_
  refine WC.region ?_
  refine WL.y rfl (Yld.pure tab_ok rfl) ?_
  refine WL.nil (WX.then_normal ?_)
  refine WC.seq ?_
  refine WC.block ?_
  obtain ⟨I1, mu1, h0_1, HR1⟩ := H
  refine WC.loopF (fun n' L' w' => ∃ (b : List UInt8), ∃ (A_b : Option Addr), ∃ (c_b : Nat), ∃ (n_b : Nat), ∃ (n : Int), ∃ (i : Int), n' = mu1 b n i ∧ L' = [(0, vs s), (1, vs old), (2, vs by_), (3, .int .i64 most), (10, .slice A_b n_b c_b), (11, .int .i64 n), (12, .int .i64 i)] ∧ I1 b n i ∧ n_b = b.length ∧ w.grownBy w' none ∧ Own vb w' w.heap.size 5 A_b c_b b) _ _ ⟨[], none, 0, 0, (0 : Int), (0 : Int), rfl, rfl, h0_1, rfl, (gr_refl _ _), (Own.nil vb w w.heap.size 5)⟩ (by repeat (first | exact Sub.nil | refine Sub.cons rfl ?_)) ?_
  clear h0_1
  rintro _ _ w1 ⟨b, A_b, c_b, n_b, n, i, rfl, rfl, hI1, rfl, gr1, k1⟩
  have H := HR1 b n i hI1
  refine WC.seq ?_
  refine WC.seq ?_
  refine WC.region ?_
  refine WL.y rfl (Yld.pure tab_ok rfl) ?_
  refine WL.y rfl (Yld.pure tab_ok rfl) ?_
  refine WL.y rfl (Yld.pure tab_ok rfl) ?_
  refine WL.y rfl (Yld.pure tab_ok rfl) ?_
  refine WL.nil (WX.then_normal ?_)
  refine WC.cond rfl (fun b1 => ?_) (fun b1 => ?_)
  · replace H := H.1 (of_decide_eq_true b1)
    refine WC.skip (WX.then_normal ?_)
    refine WC.block ?_
    refine WC.seq ?_
    obtain ⟨J1, H, hJ1⟩ := H
    refine WC.midF (fun L' w' => ∃ (b_2 : List UInt8), ∃ (A_b2 : Option Addr), ∃ (c_b2 : Nat), ∃ (n_b2 : Nat), ∃ (n2 : Int), L' = [(0, vs s), (1, vs old), (2, vs by_), (3, .int .i64 most), (10, .slice A_b2 n_b2 c_b2), (11, .int .i64 n2), (12, .int .i64 i)] ∧ J1 b_2 n2 ∧ n_b2 = b_2.length ∧ w.grownBy w' none ∧ Own vb w' w.heap.size 5 A_b2 c_b2 b_2) ?_ (fun hQ => ?_)
    · clear H
      rintro _ w2 ⟨b_2, A_b2, c_b2, n_b2, n2, rfl, H, rfl, gr2, k2⟩
      replace H := hJ1 b_2 n2 H
      refine WX.then_normal ?_
      refine WC.seq ?_
      obtain ⟨J2, H, hJ2⟩ := H
      refine WC.midF (fun L' w' => ∃ (b_3 : List UInt8), ∃ (A_b3 : Option Addr), ∃ (c_b3 : Nat), ∃ (n_b3 : Nat), L' = [(0, vs s), (1, vs old), (2, vs by_), (3, .int .i64 most), (10, .slice A_b3 n_b3 c_b3), (11, .int .i64 n2), (12, .int .i64 i)] ∧ J2 b_3 ∧ n_b3 = b_3.length ∧ w.grownBy w' none ∧ Own vb w' w.heap.size 5 A_b3 c_b3 b_3) ?_ (fun hQ => ?_)
      · clear H
        rintro _ w3 ⟨b_3, A_b3, c_b3, n_b3, rfl, H, rfl, gr3, k3⟩
        replace H := hJ2 b_3 H
        refine WX.then_normal ?_
        refine WC.seq ?_
        refine WC.region ?_
        refine WL.y rfl (Yld.pure tab_ok rfl) ?_
        obtain ⟨h1, H⟩ := H
        refine WL.y rfl (Yld.add rfl rfl h1) ?_
        refine WL.y rfl (Yld.pure tab_ok rfl) ?_
        refine WL.nil (WX.then_normal ?_)
        refine WC.seq ?_
        refine WC.region ?_
        refine WL.y rfl (Yld.pure tab_ok rfl) ?_
        refine WL.y rfl (Yld.pure tab_ok rfl) ?_
        refine WL.y rfl (Yld.pure tab_ok rfl) ?_
        refine WL.nil (WX.then_normal ?_)
        refine WC.cond rfl (fun b2 => ?_) (fun b2 => ?_)
        · replace H := H.1 (of_decide_eq_true b2)
          refine WC.seq ?_
          refine WC.region ?_
          refine WL.y rfl (Yld.pure tab_ok rfl) ?_
          refine WL.y rfl (Yld.pure tab_ok rfl) ?_
          refine WL.nil (WX.then_normal ?_)
          refine WC.ret (WX.block_ret (WX.then_ret (WX.block_ret (WX.then_ret ?_))))
          exact WX.ret2 rfl rfl rfl ⟨gr3, ([] : List UInt8), (108 : Int), rfl, H⟩
        · replace H := H.2 (of_decide_eq_false b2)
          refine WC.skip (WX.block_normal ?_)
          exact WX.roundF _ ⟨b_3, A_b3, c_b3, b_3.length, n2, i + (1 : Int), rfl, rfl, H.1, rfl, gr3, k3⟩ (by repeat (first | exact Sub.nil | refine Sub.cons rfl ?_)) H.2
      · clear hJ2
        refine WC.seq ?_
        refine WC.region ?_
        refine WL.y rfl (Yld.pure tab_ok rfl) ?_
        refine WL.y rfl (Yld.pure tab_ok rfl) ?_
        refine WL.y rfl (Yld.pure tab_ok rfl) ?_
        refine WL.y rfl (Yld.pure tab_ok rfl) ?_
        refine WL.nil (WX.then_normal ?_)
        refine WC.cond rfl (fun b3 => ?_) (fun b3 => ?_)
        · replace H := H.1 (of_decide_eq_true b3)
          refine WC.region ?_
          refine WL.y rfl (Yld.pure tab_ok rfl) ?_
          refine WL.y rfl (Yld.pure tab_ok rfl) ?_
          refine WL.y rfl (Yld.pure tab_ok rfl) ?_
          obtain ⟨h2, H⟩ := H
          refine WL.y rfl (Yld.sidx tab_ok rfl rfl rfl h2.1 h2.2) ?_
          refine WL.lit tab_ok rfl rfl rfl (all1c rfl all1n) rfl (by omega) (fun g1 w4 hB1 hg1 hl1 => ?_)
          have hO1 : Own vb w4 w.heap.size 5 (some ⟨g1, 0, none⟩) 1 ([s.getD i.toNat 0] : List UInt8) := Own.ofBl hB1 (Nat.le_trans (size_le gr2) hl1) (by simp [maxLen]) rfl
          have gr4 := gr_trans gr2 hg1
          have k4 := k2.grown hg1
          obtain ⟨h3, H⟩ := H
          refine WL.append tab_ok rfl rfl One.b k4 rfl rfl hO1.rd rfl rfl h3 (applen h3) (size_le gr4) (fun A_b4 c_b4 w5 hO2 hg2 hk1 => ?_)
          have gr5 := gr_mod gr4 hg2 k4.ge'
          refine WL.y rfl (Yld.pure tab_ok rfl) ?_
          refine WL.nil ?_
          exact WX.weaken (by repeat (first | exact Sub.nil | refine Sub.cons rfl ?_)) (hQ _ _ ⟨b_2 ++ ([s.getD i.toNat 0] : List UInt8), A_b4, c_b4, (b_2 ++ ([s.getD i.toNat 0] : List UInt8)).length, rfl, H, rfl, gr5, hO2⟩)
        · replace H := H.2 (of_decide_eq_false b3)
          refine WC.skip ?_
          exact WX.weaken (by repeat (first | exact Sub.nil | refine Sub.cons rfl ?_)) (hQ _ _ ⟨b_2, A_b2, c_b2, b_2.length, rfl, H, rfl, gr2, k2⟩)
    · clear hJ1
      refine WC.seq ?_
      refine WC.region ?_
      refine WL.y rfl (Yld.pure tab_ok rfl) ?_
      refine WL.y rfl (Yld.pure tab_ok rfl) ?_
      refine WL.y rfl (Yld.pure tab_ok rfl) ?_
      refine WL.midF 4 (fun L' w' => ∃ q1 : Bool, L' = [(23, .bool q1), (0, vs s), (1, vs old), (2, vs by_), (3, .int .i64 most), (10, .slice A_b b.length c_b), (11, .int .i64 n), (12, .int .i64 i)] ∧ q1 = ((decide (most < (0 : Int))) || (decide (n < most))) ∧ w1 = w') ?_ (fun hQ => ?_)
      · rintro _ _ ⟨q1, rfl, rfl, rfl⟩
        refine WL.y rfl (Yld.pure tab_ok rfl) ?_
        obtain ⟨J3, H, hJ3⟩ := H
        refine WL.midF 5 (fun L' w' => ∃ q2 : Bool, L' = [(29, .bool q2), (0, vs s), (1, vs old), (2, vs by_), (3, .int .i64 most), (10, .slice A_b b.length c_b), (11, .int .i64 n), (12, .int .i64 i)] ∧ J3 q2 ∧ w1 = w') ?_ (fun hQ => ?_)
        · clear H
          rintro _ _ ⟨q2, rfl, H, rfl⟩
          replace H := hJ3 q2 H
          refine WL.y rfl (Yld.pure tab_ok rfl) ?_
          refine WL.midF 9 (fun L' w' => ∃ q3 : Bool, L' = [(39, .bool q3), (0, vs s), (1, vs old), (2, vs by_), (3, .int .i64 most), (10, .slice A_b b.length c_b), (11, .int .i64 n), (12, .int .i64 i)] ∧ q3 = (q2 && ((!decide (old = ([] : List UInt8))) || (decide (i ≤ (s.length : Int))))) ∧ w1 = w') ?_ (fun hQ => ?_)
          · rintro _ _ ⟨q3, rfl, rfl, rfl⟩
            refine WL.y rfl (Yld.pure tab_ok rfl) ?_
            refine WL.midF 10 (fun L' w' => ∃ q4 : Bool, L' = [(50, .bool q4), (0, vs s), (1, vs old), (2, vs by_), (3, .int .i64 most), (10, .slice A_b b.length c_b), (11, .int .i64 n), (12, .int .i64 i)] ∧ q4 = ((q2 && ((!decide (old = ([] : List UInt8))) || (decide (i ≤ (s.length : Int))))) && (!((!decide (old = ([] : List UInt8))) && (decide (i = (s.length : Int)))))) ∧ w1 = w') ?_ (fun hQ => ?_)
            · rintro _ _ ⟨q4, rfl, rfl, rfl⟩
              refine WL.nil (WX.then_normal ?_)
              refine WC.cond rfl (fun b4 => ?_) (fun b4 => ?_)
              · replace H := H.1 (b4)
                refine WC.seq ?_
                refine WC.region ?_
                refine WL.y rfl (Yld.pure tab_ok rfl) ?_
                refine WL.y rfl (Yld.pure tab_ok rfl) ?_
                obtain ⟨h4, H⟩ := H
                refine WL.appendS tab_ok rfl rfl rfl k1 rfl rfl rfl h4 (applen h4) (size_le gr1) (fun A_b5 c_b5 w6 hO3 hg3 hk2 => ?_)
                have gr6 := gr_mod gr1 hg3 k1.ge'
                refine WL.y rfl (Yld.pure tab_ok rfl) ?_
                refine WL.nil (WX.then_normal ?_)
                refine WC.seq ?_
                refine WC.region ?_
                refine WL.y rfl (Yld.pure tab_ok rfl) ?_
                obtain ⟨h5, H⟩ := H
                refine WL.y rfl (Yld.add rfl rfl h5) ?_
                refine WL.y rfl (Yld.pure tab_ok rfl) ?_
                refine WL.nil (WX.then_normal ?_)
                refine WC.seq ?_
                refine WC.region ?_
                refine WL.y rfl (Yld.pure tab_ok rfl) ?_
                refine WL.y rfl (Yld.pure tab_ok rfl) ?_
                refine WL.nil (WX.then_normal ?_)
                refine WC.cond rfl (fun b5 => ?_) (fun b5 => ?_)
                · replace H := H.1 (nd_true b5)
                  refine WC.seq ?_
                  refine WC.region ?_
                  refine WL.y rfl (Yld.pure tab_ok rfl) ?_
                  refine WL.y rfl (Yld.pure tab_ok rfl) ?_
                  refine WL.y rfl (Yld.pure tab_ok rfl) ?_
                  obtain ⟨h6, H⟩ := H
                  refine WL.y rfl (Yld.add rfl rfl h6) ?_
                  refine WL.y rfl (Yld.pure tab_ok rfl) ?_
                  refine WL.nil (WX.then_normal ?_)
                  refine WC.seq ?_
                  refine WC.seq ?_
                  refine WC.region ?_
                  refine WL.y rfl (Yld.pure tab_ok rfl) ?_
                  refine WL.y rfl (Yld.pure tab_ok rfl) ?_
                  refine WL.y rfl (Yld.pure tab_ok rfl) ?_
                  refine WL.nil (WX.then_normal ?_)
                  refine WC.cond rfl (fun b6 => ?_) (fun b6 => ?_)
                  · replace H := H.1 (of_decide_eq_true b6)
                    refine WC.seq ?_
                    refine WC.region ?_
                    refine WL.y rfl (Yld.pure tab_ok rfl) ?_
                    refine WL.y rfl (Yld.pure tab_ok rfl) ?_
                    refine WL.nil (WX.then_normal ?_)
                    refine WC.ret (WX.then_ret (WX.then_ret (WX.block_ret (WX.then_ret (WX.block_ret (WX.then_ret ?_))))))
                    exact WX.ret2 rfl rfl rfl ⟨gr6, ([] : List UInt8), (108 : Int), rfl, H⟩
                  · replace H := H.2 (of_decide_eq_false b6)
                    refine WC.skip (WX.then_normal ?_)
                    refine WC.exit (WX.then_exit (WX.block_same ?_))
                    exact WX.roundF _ ⟨b ++ by_, A_b5, c_b5, (b ++ by_).length, n + (1 : Int), i + (old.length : Int), rfl, rfl, H.1, rfl, gr6, hO3⟩ (by repeat (first | exact Sub.nil | refine Sub.cons rfl ?_)) H.2
                · replace H := H.2 (nd_false b5)
                  refine WC.skip ?_
                  exact WX.weaken (by repeat (first | exact Sub.nil | refine Sub.cons rfl ?_)) (hQ _ _ ⟨b ++ by_, A_b5, c_b5, (b ++ by_).length, n + (1 : Int), rfl, H, rfl, gr6, hO3⟩)
              · replace H := H.2 (b4)
                refine WC.skip ?_
                exact WX.weaken (by repeat (first | exact Sub.nil | refine Sub.cons rfl ?_)) (hQ _ _ ⟨b, A_b, c_b, b.length, n, rfl, H, rfl, gr1, k1⟩)
            · clear H
              rcases Bool.eq_false_or_eq_true (q2 && ((!decide (old = ([] : List UInt8))) || (decide (i ≤ (s.length : Int))))) with b7 | b7
              · refine WL.gyes rfl rfl (okb b7) rfl (Yld.pure tab_ok rfl) ?_
                refine WL.gyes rfl rfl (okb b7) rfl (Yld.pure tab_ok rfl) ?_
                refine WL.gyes rfl rfl (okb b7) rfl (Yld.pure tab_ok rfl) ?_
                rcases Bool.eq_false_or_eq_true (!decide (old = ([] : List UInt8))) with b8 | b8
                · refine WL.gyes rfl rfl (okb b8) rfl (Yld.pure tab_ok rfl) ?_
                  refine WL.gyes rfl rfl (okb b8) rfl (Yld.pure tab_ok rfl) ?_
                  refine WL.gyes rfl rfl (okb b8) rfl (Yld.pure tab_ok rfl) ?_
                  refine WL.gyes rfl rfl (okb b8) rfl (Yld.pure tab_ok rfl) ?_
                  refine WL.gyes rfl rfl (okb b7) rfl (Yld.pickT (okb b8) rfl) ?_
                  refine WL.gyes rfl rfl (okb b7) rfl (Yld.pure tab_ok rfl) ?_
                  refine WL.y rfl (Yld.pickT (okb b7) rfl) ?_
                  exact WL.weaken (by repeat (first | exact Sub.nil | refine Sub.cons rfl ?_)) (hQ _ _ ⟨!decide (i = (s.length : Int)), rfl, by rw [b7, b8] <;> rfl, rfl⟩)
                · refine WL.gno rfl rfl (okb b8) rfl ?_
                  refine WL.gno rfl rfl (okb b8) rfl ?_
                  refine WL.gno rfl rfl (okb b8) rfl ?_
                  refine WL.gno rfl rfl (okb b8) rfl ?_
                  refine WL.gyes rfl rfl (okb b7) rfl (Yld.pickF (okb b8) rfl) ?_
                  refine WL.gyes rfl rfl (okb b7) rfl (Yld.pure tab_ok rfl) ?_
                  refine WL.y rfl (Yld.pickT (okb b7) rfl) ?_
                  exact WL.weaken (by repeat (first | exact Sub.nil | refine Sub.cons rfl ?_)) (hQ _ _ ⟨true, rfl, by rw [b7, b8] <;> rfl, rfl⟩)
              · refine WL.gno rfl rfl (okb b7) rfl ?_
                refine WL.gno rfl rfl (okb b7) rfl ?_
                refine WL.gno rfl rfl (okb b7) rfl ?_
                refine WL.gun rfl rfl rfl rfl ?_
                refine WL.gun rfl rfl rfl rfl ?_
                refine WL.gun rfl rfl rfl rfl ?_
                refine WL.gun rfl rfl rfl rfl ?_
                refine WL.gno rfl rfl (okb b7) rfl ?_
                refine WL.gno rfl rfl (okb b7) rfl ?_
                refine WL.y rfl (Yld.pickF (okb b7) rfl) ?_
                exact WL.weaken (by repeat (first | exact Sub.nil | refine Sub.cons rfl ?_)) (hQ _ _ ⟨false, rfl, by rw [b7] <;> rfl, rfl⟩)
          · clear H
            rcases Bool.eq_false_or_eq_true (q2) with b9 | b9
            · refine WL.gyes rfl rfl (okb b9) rfl (Yld.pure tab_ok rfl) ?_
              refine WL.gyes rfl rfl (okb b9) rfl (Yld.pure tab_ok rfl) ?_
              refine WL.gyes rfl rfl (okb b9) rfl (Yld.pure tab_ok rfl) ?_
              rcases Bool.eq_false_or_eq_true (!decide (old = ([] : List UInt8))) with b10 | b10
              · refine WL.gno rfl rfl (okb b10) rfl ?_
                refine WL.gno rfl rfl (okb b10) rfl ?_
                refine WL.gno rfl rfl (okb b10) rfl ?_
                refine WL.gno rfl rfl (okb b10) rfl ?_
                refine WL.gyes rfl rfl (okb b9) rfl (Yld.pickT (okb b10) rfl) ?_
                refine WL.y rfl (Yld.pickT (okb b9) rfl) ?_
                exact WL.weaken (by repeat (first | exact Sub.nil | refine Sub.cons rfl ?_)) (hQ _ _ ⟨true, rfl, by rw [b9, b10] <;> rfl, rfl⟩)
              · refine WL.gyes rfl rfl (okb b10) rfl (Yld.pure tab_ok rfl) ?_
                refine WL.gyes rfl rfl (okb b10) rfl (Yld.pure tab_ok rfl) ?_
                refine WL.gyes rfl rfl (okb b10) rfl (Yld.pure tab_ok rfl) ?_
                refine WL.gyes rfl rfl (okb b10) rfl (Yld.pure tab_ok rfl) ?_
                refine WL.gyes rfl rfl (okb b9) rfl (Yld.pickF (okb b10) rfl) ?_
                refine WL.y rfl (Yld.pickT (okb b9) rfl) ?_
                exact WL.weaken (by repeat (first | exact Sub.nil | refine Sub.cons rfl ?_)) (hQ _ _ ⟨decide (i ≤ (s.length : Int)), rfl, by rw [b9, b10] <;> rfl, rfl⟩)
            · refine WL.gno rfl rfl (okb b9) rfl ?_
              refine WL.gno rfl rfl (okb b9) rfl ?_
              refine WL.gno rfl rfl (okb b9) rfl ?_
              refine WL.gun rfl rfl rfl rfl ?_
              refine WL.gun rfl rfl rfl rfl ?_
              refine WL.gun rfl rfl rfl rfl ?_
              refine WL.gun rfl rfl rfl rfl ?_
              refine WL.gno rfl rfl (okb b9) rfl ?_
              refine WL.y rfl (Yld.pickF (okb b9) rfl) ?_
              exact WL.weaken (by repeat (first | exact Sub.nil | refine Sub.cons rfl ?_)) (hQ _ _ ⟨false, rfl, by rw [b9] <;> rfl, rfl⟩)
        · clear hJ3
          rcases Bool.eq_false_or_eq_true ((decide (most < (0 : Int))) || (decide (n < most))) with b11 | b11
          · replace H := H.1 b11
            refine WL.gyes rfl rfl (okb b11) rfl (Yld.pure tab_ok rfl) ?_
            refine WL.gyes rfl rfl (okb b11) rfl (Yld.pure tab_ok rfl) ?_
            refine WL.gyes rfl rfl (okb b11) rfl (Yld.pure tab_ok rfl) ?_
            refine WL.callw (wants_some rfl rfl (okb b11)) rfl rfl (W_smithyref11_at H) ?_
            rintro _ _ ⟨rfl, t28, rfl, H⟩
            refine WL.y rfl (Yld.pickT (okb b11) rfl) ?_
            exact WL.weaken (by repeat (first | exact Sub.nil | refine Sub.cons rfl ?_)) (hQ _ _ ⟨t28, rfl, H, rfl⟩)
          · replace H := H.2 b11
            refine WL.gno rfl rfl (okb b11) rfl ?_
            refine WL.gno rfl rfl (okb b11) rfl ?_
            refine WL.gno rfl rfl (okb b11) rfl ?_
            refine WL.gno rfl rfl (okb b11) rfl ?_
            refine WL.y rfl (Yld.pickF (okb b11) rfl) ?_
            exact WL.weaken (by repeat (first | exact Sub.nil | refine Sub.cons rfl ?_)) (hQ _ _ ⟨false, rfl, H, rfl⟩)
      · clear H
        rcases Bool.eq_false_or_eq_true (decide (most < (0 : Int))) with b12 | b12
        · refine WL.gno rfl rfl (okb b12) rfl ?_
          refine WL.gno rfl rfl (okb b12) rfl ?_
          refine WL.gno rfl rfl (okb b12) rfl ?_
          refine WL.y rfl (Yld.pickT (okb b12) rfl) ?_
          exact WL.weaken (by repeat (first | exact Sub.nil | refine Sub.cons rfl ?_)) (hQ _ _ ⟨true, rfl, by rw [b12] <;> rfl, rfl⟩)
        · refine WL.gyes rfl rfl (okb b12) rfl (Yld.pure tab_ok rfl) ?_
          refine WL.gyes rfl rfl (okb b12) rfl (Yld.pure tab_ok rfl) ?_
          refine WL.gyes rfl rfl (okb b12) rfl (Yld.pure tab_ok rfl) ?_
          refine WL.y rfl (Yld.pickF (okb b12) rfl) ?_
          exact WL.weaken (by repeat (first | exact Sub.nil | refine Sub.cons rfl ?_)) (hQ _ _ ⟨decide (n < most), rfl, by rw [b12] <;> rfl, rfl⟩)
  · replace H := H.2 (of_decide_eq_false b1)
    refine WC.exit (WX.then_exit (WX.then_exit (WX.block_same (WX.then_normal ?_))))
    refine WC.seq ?_
    refine WC.region ?_
    refine WL.y rfl (Yld.pure tab_ok rfl) ?_
    refine WL.y rfl (Yld.b2s tab_ok k1.rd rfl rfl rfl rfl rfl) ?_
    refine WL.y rfl (Yld.pure tab_ok rfl) ?_
    refine WL.y rfl (Yld.pure tab_ok rfl) ?_
    refine WL.nil (WX.then_normal ?_)
    refine WC.ret ?_
    exact WX.ret2 rfl rfl rfl ⟨gr1, b, (0 : Int), rfl, H⟩

set_option maxHeartbeats 8000000 in
theorem W_smithyref11_Cut {w : World} {n : Int} {from_ : Int} {to_ : Int} {has : Bool} {until_ : Bool} {K : Int → Int → Prop} (H : M_smithyref11_Cut n from_ to_ has until_ K) : Fn Tryd.prog 36 ⟨[.int .i64 n, .int .i64 from_, .int .i64 to_, .bool has, .bool until_]⟩ w (fun v w' => w = w' ∧ ∃ (r0 : Int), ∃ (r1 : Int), v = .tuple #[.int .i64 r0, .int .i64 r1] ∧ K r0 r1) := by
  unfold M_smithyref11_Cut at H
  refine Fn.enter (by kernel_rfl) Tryd.func36 rfl Tryd.ntmps36 rfl ?_
  refine WC.seq ?_
  refine WC.region ?_
  refine WL.y rfl (Yld.pure tab_ok rfl) ?_
  refine WL.y rfl (Yld.pure tab_ok rfl) ?_
  refine WL.nil (WX.then_normal ?_)
  refine WC.seq ?_
  refine WC.region ?_
  refine WL.y rfl (Yld.pure tab_ok rfl) ?_
  refine WL.y rfl (Yld.pure tab_ok rfl) ?_
  refine WL.call rfl rfl (W_smithyref11_bound H) ?_
  rintro _ _ ⟨rfl, a, rfl, H⟩
  refine WL.y rfl (Yld.pure tab_ok rfl) ?_
  refine WL.nil (WX.then_normal ?_)
  refine WC.seq ?_
  refine WC.region ?_
  refine WL.y rfl (Yld.pure tab_ok rfl) ?_
  refine WL.y rfl (Yld.pure tab_ok rfl) ?_
  refine WL.call rfl rfl (W_smithyref11_bound H) ?_
  rintro _ _ ⟨rfl, b, rfl, H⟩
  refine WL.y rfl (Yld.pure tab_ok rfl) ?_
  refine WL.nil (WX.then_normal ?_)
  refine WC.seq ?_
  obtain ⟨J1, H, hJ1⟩ := H
  refine WC.midF (fun L' w' => ∃ (a2 : Int), L' = [(0, .int .i64 n), (4, .bool until_), (12, .int .i64 a2), (13, .int .i64 b)] ∧ J1 a2 ∧ w = w') ?_ (fun hQ => ?_)
  · clear H
    rintro _ _ ⟨a2, rfl, H, rfl⟩
    replace H := hJ1 a2 H
    refine WX.then_normal ?_
    refine WC.seq ?_
    obtain ⟨J2, H, hJ2⟩ := H
    refine WC.midF (fun L' w' => ∃ (b_2 : Int), L' = [(12, .int .i64 a2), (13, .int .i64 b_2)] ∧ J2 b_2 ∧ w = w') ?_ (fun hQ => ?_)
    · clear H
      rintro _ _ ⟨b_2, rfl, H, rfl⟩
      replace H := hJ2 b_2 H
      refine WX.then_normal ?_
      refine WC.seq ?_
      refine WC.region ?_
      refine WL.y rfl (Yld.pure tab_ok rfl) ?_
      refine WL.y rfl (Yld.pure tab_ok rfl) ?_
      refine WL.y rfl (Yld.pure tab_ok rfl) ?_
      refine WL.y rfl (Yld.max2 rfl rfl) ?_
      refine WL.y rfl (Yld.pure tab_ok rfl) ?_
      refine WL.y rfl (Yld.pure tab_ok rfl) ?_
      refine WL.nil (WX.then_normal ?_)
      refine WC.ret ?_
      exact WX.ret2 rfl rfl rfl ⟨rfl, a2, (if a2 < b_2 then b_2 else a2), rfl, H⟩
    · clear hJ2
      refine WC.seq ?_
      refine WC.region ?_
      refine WL.y rfl (Yld.pure tab_ok rfl) ?_
      refine WL.y rfl (Yld.pure tab_ok rfl) ?_
      refine WL.nil (WX.then_normal ?_)
      refine WC.cond rfl (fun b1 => ?_) (fun b1 => ?_)
      · replace H := H.1 (b1)
        refine WC.region ?_
        refine WL.y rfl (Yld.pure tab_ok rfl) ?_
        refine WL.y rfl (Yld.pure tab_ok rfl) ?_
        refine WL.nil ?_
        exact WX.weaken (by repeat (first | exact Sub.nil | refine Sub.cons rfl ?_)) (hQ _ _ ⟨n, rfl, H, rfl⟩)
      · replace H := H.2 (b1)
        refine WC.skip ?_
        exact WX.weaken (by repeat (first | exact Sub.nil | refine Sub.cons rfl ?_)) (hQ _ _ ⟨b, rfl, H, rfl⟩)
  · clear hJ1
    refine WC.seq ?_
    refine WC.region ?_
    refine WL.y rfl (Yld.pure tab_ok rfl) ?_
    refine WL.y rfl (Yld.pure tab_ok rfl) ?_
    refine WL.nil (WX.then_normal ?_)
    refine WC.cond rfl (fun b2 => ?_) (fun b2 => ?_)
    · replace H := H.1 (b2)
      refine WC.region ?_
      refine WL.y rfl (Yld.pure tab_ok rfl) ?_
      refine WL.nil ?_
      exact WX.weaken (by repeat (first | exact Sub.nil | refine Sub.cons rfl ?_)) (hQ _ _ ⟨(0 : Int), rfl, H, rfl⟩)
    · replace H := H.2 (b2)
      refine WC.skip ?_
      exact WX.weaken (by repeat (first | exact Sub.nil | refine Sub.cons rfl ?_)) (hQ _ _ ⟨a, rfl, H, rfl⟩)

set_option maxHeartbeats 8000000 in
theorem W_smithyref11_Find {w : World} {s : List UInt8} {what : List UInt8} {from_ : Int} {to_ : Int} {K : Int → Prop} (H : M_smithyref11_Find s what from_ to_ K) : Fn Tryd.prog 38 ⟨[vs s, vs what, .int .i64 from_, .int .i64 to_]⟩ w (fun v w' => w = w' ∧ ∃ (r : Int), v = .int .i64 r ∧ K r) := by
  unfold M_smithyref11_Find at H
  refine Fn.enter (by kernel_rfl) Tryd.func38 rfl Tryd.ntmps38 rfl ?_
  refine WC.seq ?_
  refine WC.region ?_
  refine WL.y rfl (Yld.pure tab_ok rfl) ?_
  refine WL.nil (WX.then_normal ?_)
  refine WC.seq ?_
  refine WC.region ?_
  refine WL.y rfl (Yld.pure tab_ok rfl) ?_
  refine WL.y rfl (Yld.pure tab_ok rfl) ?_
  refine WL.y rfl (Yld.pure tab_ok rfl) ?_
  refine WL.y rfl (Yld.pure tab_ok rfl) ?_
  refine WL.call rfl rfl (W_smithyref11_Cut H) ?_
  rintro _ _ ⟨rfl, t170, t171, rfl, H⟩
  refine WL.y rfl (Yld.pure tab_ok rfl) ?_
  refine WL.y rfl (Yld.pure tab_ok rfl) ?_
  refine WL.y rfl (Yld.pure tab_ok rfl) ?_
  refine WL.y rfl (Yld.pure tab_ok rfl) ?_
  refine WL.y rfl (Yld.pure tab_ok rfl) ?_
  refine WL.nil (WX.then_normal ?_)
  refine WC.seq ?_
  refine WC.seq ?_
  refine WC.region ?_
  refine WL.y rfl (Yld.pure tab_ok rfl) ?_
  refine WL.y rfl (Yld.pure tab_ok rfl) ?_
  refine WL.nil (WX.then_normal ?_)
  refine WC.block ?_
  obtain ⟨I1, mu1, h0_1, HR1⟩ := H
  refine WC.loopF (fun n' L' w' => ∃ (i : Int), n' = mu1 i ∧ L' = [(0, vs s), (1, vs what), (10, .int .i64 t171), (11, .int .i64 i)] ∧ I1 i ∧ w = w') _ _ ⟨t170, rfl, rfl, h0_1, rfl⟩ (by repeat (first | exact Sub.nil | refine Sub.cons rfl ?_)) ?_
  clear h0_1
  rintro _ _ _ ⟨i, rfl, rfl, hI1, rfl⟩
  have H := HR1 i hI1
  refine WC.seq ?_
  refine WC.seq ?_
  refine WC.region ?_
  refine WL.y rfl (Yld.pure tab_ok rfl) ?_
  refine WL.y rfl (Yld.pure tab_ok rfl) ?_
  refine WL.y rfl (Yld.pure tab_ok rfl) ?_
  refine WL.y rfl (Yld.pure tab_ok rfl) ?_
  obtain ⟨h1, H⟩ := H
  refine WL.y rfl (Yld.sub rfl rfl h1) ?_
  refine WL.y rfl (Yld.pure tab_ok rfl) ?_
  refine WL.nil (WX.then_normal ?_)
  refine WC.cond rfl (fun b1 => ?_) (fun b1 => ?_)
  · replace H := H.1 (of_decide_eq_true b1)
    refine WC.skip (WX.then_normal ?_)
    refine WC.seq ?_
    refine WC.block ?_
    refine WC.seq ?_
    refine WC.region ?_
    refine WL.y rfl (Yld.pure tab_ok rfl) ?_
    refine WL.y rfl (Yld.pure tab_ok rfl) ?_
    refine WL.y rfl (Yld.pure tab_ok rfl) ?_
    refine WL.call rfl rfl (W_smithyref11_at H) ?_
    rintro _ _ ⟨rfl, t32, rfl, H⟩
    refine WL.nil (WX.then_normal ?_)
    refine WC.cond rfl (fun b2 => ?_) (fun b2 => ?_)
    · replace H := H.1 (b2)
      refine WC.seq ?_
      refine WC.region ?_
      refine WL.y rfl (Yld.pure tab_ok rfl) ?_
      refine WL.y rfl (Yld.pure tab_ok rfl) ?_
      refine WL.nil (WX.then_normal ?_)
      refine WC.ret (WX.block_ret (WX.then_ret (WX.then_ret (WX.block_ret (WX.then_ret ?_)))))
      exact WX.ret1 rfl rfl ⟨rfl, i, rfl, H⟩
    · replace H := H.2 (b2)
      refine WC.skip (WX.block_normal (WX.then_normal ?_))
      refine WC.region ?_
      refine WL.y rfl (Yld.pure tab_ok rfl) ?_
      obtain ⟨h2, H⟩ := H
      refine WL.y rfl (Yld.add rfl rfl h2) ?_
      refine WL.y rfl (Yld.pure tab_ok rfl) ?_
      refine WL.nil ?_
      exact WX.roundF _ ⟨i + (1 : Int), rfl, rfl, H.1, rfl⟩ (by repeat (first | exact Sub.nil | refine Sub.cons rfl ?_)) H.2
  · replace H := H.2 (of_decide_eq_false b1)
    refine WC.exit (WX.then_exit (WX.then_exit (WX.block_same (WX.then_normal ?_))))
    refine WC.seq ?_
    refine WC.region ?_
    refine WL.y rfl (Yld.pure tab_ok rfl) ?_
    refine WL.nil (WX.then_normal ?_)
    refine WC.ret ?_
    exact WX.ret1 rfl rfl ⟨rfl, (-1 : Int), rfl, H⟩

set_option maxHeartbeats 8000000 in
theorem W_smithyref11_Count {w : World} {s : List UInt8} {what : List UInt8} {K : Int → Prop} (H : M_smithyref11_Count s what K) : Fn Tryd.prog 39 ⟨[vs s, vs what]⟩ w (fun v w' => w = w' ∧ ∃ (r : Int), v = .int .i64 r ∧ K r) := by
  unfold M_smithyref11_Count at H
  refine Fn.enter (by kernel_rfl) Tryd.func39 rfl Tryd.ntmps39 rfl ?_
  refine WC.seq ?_
  refine WC.region ?_
  refine WL.y rfl (Yld.pure tab_ok rfl) ?_
  refine WL.nil (WX.then_normal ?_)
  refine WC.seq ?_
  refine WC.seq ?_
  refine WC.region ?_
  refine WL.y rfl (Yld.pure tab_ok rfl) ?_
  refine WL.y rfl (Yld.pure tab_ok rfl) ?_
  refine WL.nil (WX.then_normal ?_)
  refine WC.cond rfl (fun b1 => ?_) (fun b1 => ?_)
  · replace H := H.1 (of_decide_eq_true b1)
    refine WC.seq ?_
    refine WC.region ?_
    refine WL.y rfl (Yld.pure tab_ok rfl) ?_
    refine WL.y rfl (Yld.pure tab_ok rfl) ?_
    obtain ⟨h1, H⟩ := H
    refine WL.y rfl (Yld.add rfl rfl h1) ?_
    refine WL.y rfl (Yld.pure tab_ok rfl) ?_
    refine WL.nil (WX.then_normal ?_)
    refine WC.ret (WX.then_ret ?_)
    exact WX.ret1 rfl rfl ⟨rfl, (s.length : Int) + (1 : Int), rfl, H⟩
  · replace H := H.2 (of_decide_eq_false b1)
    refine WC.skip (WX.then_normal ?_)
    refine WC.seq ?_
    refine WC.region ?_
    refine WL.y rfl (Yld.pure tab_ok rfl) ?_
    refine WL.nil (WX.then_normal ?_)
    refine WC.seq ?_
    refine WC.region ?_
    refine WL.y rfl (Yld.pure tab_ok rfl) ?_
    refine WL.nil (WX.then_normal ?_)
    refine WC.seq ?_
    refine WC.block ?_
    obtain ⟨I1, mu1, h0_1, HR1⟩ := H
    refine WC.loopF (fun n' L' w' => ∃ (n : Int), ∃ (i : Int), n' = mu1 n i ∧ L' = [(0, vs s), (1, vs what), (5, .int .i64 n), (6, .int .i64 i)] ∧ I1 n i ∧ w = w') _ _ ⟨(0 : Int), (0 : Int), rfl, rfl, h0_1, rfl⟩ (by repeat (first | exact Sub.nil | refine Sub.cons rfl ?_)) ?_
    clear h0_1
    rintro _ _ _ ⟨n, i, rfl, rfl, hI1, rfl⟩
    have H := HR1 n i hI1
    refine WC.seq ?_
    refine WC.seq ?_
    refine WC.region ?_
    refine WL.y rfl (Yld.pure tab_ok rfl) ?_
    refine WL.y rfl (Yld.pure tab_ok rfl) ?_
    refine WL.y rfl (Yld.pure tab_ok rfl) ?_
    refine WL.y rfl (Yld.pure tab_ok rfl) ?_
    refine WL.nil (WX.then_normal ?_)
    refine WC.cond rfl (fun b2 => ?_) (fun b2 => ?_)
    · replace H := H.1 (of_decide_eq_true b2)
      refine WC.skip (WX.then_normal ?_)
      refine WC.block ?_
      refine WC.seq ?_
      refine WC.region ?_
      refine WL.y rfl (Yld.pure tab_ok rfl) ?_
      refine WL.y rfl (Yld.pure tab_ok rfl) ?_
      refine WL.y rfl (Yld.pure tab_ok rfl) ?_
      refine WL.call rfl rfl (W_smithyref11_at H) ?_
      rintro _ _ ⟨rfl, t19, rfl, H⟩
      refine WL.nil (WX.then_normal ?_)
      refine WC.cond rfl (fun b3 => ?_) (fun b3 => ?_)
      · replace H := H.1 (b3)
        refine WC.seq ?_
        refine WC.region ?_
        refine WL.y rfl (Yld.pure tab_ok rfl) ?_
        obtain ⟨h2, H⟩ := H
        refine WL.y rfl (Yld.add rfl rfl h2) ?_
        refine WL.y rfl (Yld.pure tab_ok rfl) ?_
        refine WL.nil (WX.then_normal ?_)
        refine WC.region ?_
        refine WL.y rfl (Yld.pure tab_ok rfl) ?_
        refine WL.y rfl (Yld.pure tab_ok rfl) ?_
        refine WL.y rfl (Yld.pure tab_ok rfl) ?_
        obtain ⟨h3, H⟩ := H
        refine WL.y rfl (Yld.add rfl rfl h3) ?_
        refine WL.y rfl (Yld.pure tab_ok rfl) ?_
        refine WL.nil (WX.block_normal ?_)
        exact WX.roundF _ ⟨n + (1 : Int), i + (what.length : Int), rfl, rfl, H.1, rfl⟩ (by repeat (first | exact Sub.nil | refine Sub.cons rfl ?_)) H.2
      · replace H := H.2 (b3)
        refine WC.region ?_
        refine WL.y rfl (Yld.pure tab_ok rfl) ?_
        obtain ⟨h4, H⟩ := H
        refine WL.y rfl (Yld.add rfl rfl h4) ?_
        refine WL.y rfl (Yld.pure tab_ok rfl) ?_
        refine WL.nil (WX.block_normal ?_)
        exact WX.roundF _ ⟨n, i + (1 : Int), rfl, rfl, H.1, rfl⟩ (by repeat (first | exact Sub.nil | refine Sub.cons rfl ?_)) H.2
    · replace H := H.2 (of_decide_eq_false b2)
      refine WC.exit (WX.then_exit (WX.then_exit (WX.block_same (WX.then_normal ?_))))
      refine WC.seq ?_
      refine WC.region ?_
      refine WL.y rfl (Yld.pure tab_ok rfl) ?_
      refine WL.y rfl (Yld.pure tab_ok rfl) ?_
      refine WL.nil (WX.then_normal ?_)
      refine WC.ret ?_
      exact WX.ret1 rfl rfl ⟨rfl, n, rfl, H⟩

set_option maxHeartbeats 8000000 in
theorem W_smithyref11_Strip {w : World} {s : List UInt8} {bytes : List UInt8} {left : Bool} {right : Bool} {K : (List UInt8) → Prop} (H : M_smithyref11_Strip s bytes left right K) : Fn Tryd.prog 40 ⟨[vs s, vs bytes, .bool left, .bool right]⟩ w (fun v w' => w = w' ∧ ∃ (r : List UInt8), v = vs r ∧ K r) := by
  unfold M_smithyref11_Strip at H
  refine Fn.enter (by kernel_rfl) Tryd.func40 rfl Tryd.ntmps40 rfl ?_
  refine WC.seq ?_
  refine WC.region ?_
  refine WL.y rfl (Yld.pure tab_ok rfl) ?_
  refine WL.nil (WX.then_normal ?_)
  refine WC.seq ?_
  refine WC.region ?_
  refine WL.y rfl (Yld.pure tab_ok rfl) ?_
  refine WL.nil (WX.then_normal ?_)
  refine WC.seq ?_
  refine WC.region ?_
  refine WL.y rfl (Yld.pure tab_ok rfl) ?_
  refine WL.y rfl (Yld.pure tab_ok rfl) ?_
  refine WL.y rfl (Yld.pure tab_ok rfl) ?_
  refine WL.nil (WX.then_normal ?_)
  refine WC.seq ?_
  refine WC.block ?_
  obtain ⟨I1, mu1, h0_1, HR1⟩ := H
  refine WC.loopF (fun n' L' w' => ∃ (a : Int), n' = mu1 a ∧ L' = [(0, vs s), (1, vs bytes), (2, .bool left), (3, .bool right), (9, .int .i64 a), (10, .int .i64 (s.length : Int))] ∧ I1 a ∧ w = w') _ _ ⟨(0 : Int), rfl, rfl, h0_1, rfl⟩ (by repeat (first | exact Sub.nil | refine Sub.cons rfl ?_)) ?_
  clear h0_1
  rintro _ _ _ ⟨a, rfl, rfl, hI1, rfl⟩
  have H := HR1 a hI1
  refine WC.seq ?_
  refine WC.seq ?_
  refine WC.region ?_
  refine WL.y rfl (Yld.pure tab_ok rfl) ?_
  refine WL.y rfl (Yld.pure tab_ok rfl) ?_
  refine WL.midF 4 (fun L' w' => ∃ q1 : Bool, L' = [(18, .bool q1), (0, vs s), (1, vs bytes), (2, .bool left), (3, .bool right), (9, .int .i64 a), (10, .int .i64 (s.length : Int))] ∧ q1 = (left && (decide (a < (s.length : Int)))) ∧ w = w') ?_ (fun hQ => ?_)
  · rintro _ _ ⟨q1, rfl, rfl, rfl⟩
    refine WL.y rfl (Yld.pure tab_ok rfl) ?_
    obtain ⟨J1, H, hJ1⟩ := H
    refine WL.midF 6 (fun L' w' => ∃ q2 : Bool, L' = [(25, .bool q2), (0, vs s), (1, vs bytes), (2, .bool left), (3, .bool right), (9, .int .i64 a), (10, .int .i64 (s.length : Int))] ∧ J1 q2 ∧ w = w') ?_ (fun hQ => ?_)
    · clear H
      rintro _ _ ⟨q2, rfl, H, rfl⟩
      replace H := hJ1 q2 H
      refine WL.nil (WX.then_normal ?_)
      refine WC.cond rfl (fun b1 => ?_) (fun b1 => ?_)
      · replace H := H.1 (b1)
        refine WC.skip (WX.then_normal ?_)
        refine WC.block ?_
        refine WC.region ?_
        refine WL.y rfl (Yld.pure tab_ok rfl) ?_
        obtain ⟨h1, H⟩ := H
        refine WL.y rfl (Yld.add rfl rfl h1) ?_
        refine WL.y rfl (Yld.pure tab_ok rfl) ?_
        refine WL.nil (WX.block_normal ?_)
        exact WX.roundF _ ⟨a + (1 : Int), rfl, rfl, H.1, rfl⟩ (by repeat (first | exact Sub.nil | refine Sub.cons rfl ?_)) H.2
      · replace H := H.2 (b1)
        refine WC.exit (WX.then_exit (WX.then_exit (WX.block_same (WX.then_normal ?_))))
        refine WC.seq ?_
        refine WC.block ?_
        obtain ⟨I2, mu2, h0_2, HR2⟩ := H
        refine WC.loopF (fun n' L' w' => ∃ (b : Int), n' = mu2 b ∧ L' = [(0, vs s), (1, vs bytes), (3, .bool right), (9, .int .i64 a), (10, .int .i64 b)] ∧ I2 b ∧ w = w') _ _ ⟨(s.length : Int), rfl, rfl, h0_2, rfl⟩ (by repeat (first | exact Sub.nil | refine Sub.cons rfl ?_)) ?_
        clear h0_2
        rintro _ _ _ ⟨b, rfl, rfl, hI2, rfl⟩
        have H := HR2 b hI2
        refine WC.seq ?_
        refine WC.seq ?_
        refine WC.region ?_
        refine WL.y rfl (Yld.pure tab_ok rfl) ?_
        refine WL.y rfl (Yld.pure tab_ok rfl) ?_
        refine WL.midF 4 (fun L' w' => ∃ q3 : Bool, L' = [(33, .bool q3), (0, vs s), (1, vs bytes), (3, .bool right), (9, .int .i64 a), (10, .int .i64 b)] ∧ q3 = (right && (decide (a < b))) ∧ w = w') ?_ (fun hQ => ?_)
        · rintro _ _ ⟨q3, rfl, rfl, rfl⟩
          refine WL.y rfl (Yld.pure tab_ok rfl) ?_
          obtain ⟨J2, H, hJ2⟩ := H
          refine WL.midF 7 (fun L' w' => ∃ q4 : Bool, L' = [(41, .bool q4), (0, vs s), (1, vs bytes), (3, .bool right), (9, .int .i64 a), (10, .int .i64 b)] ∧ J2 q4 ∧ w = w') ?_ (fun hQ => ?_)
          · clear H
            rintro _ _ ⟨q4, rfl, H, rfl⟩
            replace H := hJ2 q4 H
            refine WL.nil (WX.then_normal ?_)
            refine WC.cond rfl (fun b2 => ?_) (fun b2 => ?_)
            · replace H := H.1 (b2)
              refine WC.skip (WX.then_normal ?_)
              refine WC.block ?_
              refine WC.region ?_
              refine WL.y rfl (Yld.pure tab_ok rfl) ?_
              obtain ⟨h2, H⟩ := H
              refine WL.y rfl (Yld.sub rfl rfl h2) ?_
              refine WL.y rfl (Yld.pure tab_ok rfl) ?_
              refine WL.nil (WX.block_normal ?_)
              exact WX.roundF _ ⟨b - (1 : Int), rfl, rfl, H.1, rfl⟩ (by repeat (first | exact Sub.nil | refine Sub.cons rfl ?_)) H.2
            · replace H := H.2 (b2)
              refine WC.exit (WX.then_exit (WX.then_exit (WX.block_same (WX.then_normal ?_))))
              refine WC.seq ?_
              refine WC.region ?_
              refine WL.y rfl (Yld.pure tab_ok rfl) ?_
              refine WL.y rfl (Yld.pure tab_ok rfl) ?_
              refine WL.y rfl (Yld.pure tab_ok rfl) ?_
              obtain ⟨h3, H⟩ := H
              refine WL.y rfl (Yld.scut tab_ok rfl rfl rfl rfl h3.1 h3.2.1 h3.2.2) ?_
              refine WL.y rfl (Yld.pure tab_ok rfl) ?_
              refine WL.nil (WX.then_normal ?_)
              refine WC.ret ?_
              exact WX.ret1 rfl rfl ⟨rfl, (s.drop a.toNat).take (b.toNat - a.toNat), rfl, H⟩
          · clear hJ2
            rcases Bool.eq_false_or_eq_true (right && (decide (a < b))) with b3 | b3
            · replace H := H.1 b3
              refine WL.gyes rfl rfl (okb b3) rfl (Yld.pure tab_ok rfl) ?_
              refine WL.gyes rfl rfl (okb b3) rfl (Yld.pure tab_ok rfl) ?_
              obtain ⟨h4, H⟩ := H
              refine WL.gyes rfl rfl (okb b3) rfl (Yld.sub rfl rfl h4) ?_
              obtain ⟨h5, H⟩ := H
              refine WL.gyes rfl rfl (okb b3) rfl (Yld.sidx tab_ok rfl rfl rfl h5.1 h5.2) ?_
              refine WL.gyes rfl rfl (okb b3) rfl (Yld.pure tab_ok rfl) ?_
              refine WL.callw (wants_some rfl rfl (okb b3)) rfl rfl (W_smithyref11_strips H) ?_
              rintro _ _ ⟨rfl, t40, rfl, H⟩
              refine WL.y rfl (Yld.pickT (okb b3) rfl) ?_
              exact WL.weaken (by repeat (first | exact Sub.nil | refine Sub.cons rfl ?_)) (hQ _ _ ⟨t40, rfl, H, rfl⟩)
            · replace H := H.2 b3
              refine WL.gno rfl rfl (okb b3) rfl ?_
              refine WL.gno rfl rfl (okb b3) rfl ?_
              refine WL.gno rfl rfl (okb b3) rfl ?_
              refine WL.gno rfl rfl (okb b3) rfl ?_
              refine WL.gno rfl rfl (okb b3) rfl ?_
              refine WL.gno rfl rfl (okb b3) rfl ?_
              refine WL.y rfl (Yld.pickF (okb b3) rfl) ?_
              exact WL.weaken (by repeat (first | exact Sub.nil | refine Sub.cons rfl ?_)) (hQ _ _ ⟨false, rfl, H, rfl⟩)
        · clear H
          rcases Bool.eq_false_or_eq_true (right) with b4 | b4
          · refine WL.gyes rfl rfl (okb b4) rfl (Yld.pure tab_ok rfl) ?_
            refine WL.gyes rfl rfl (okb b4) rfl (Yld.pure tab_ok rfl) ?_
            refine WL.gyes rfl rfl (okb b4) rfl (Yld.pure tab_ok rfl) ?_
            refine WL.y rfl (Yld.pickT (okb b4) rfl) ?_
            exact WL.weaken (by repeat (first | exact Sub.nil | refine Sub.cons rfl ?_)) (hQ _ _ ⟨decide (a < b), rfl, by rw [b4] <;> rfl, rfl⟩)
          · refine WL.gno rfl rfl (okb b4) rfl ?_
            refine WL.gno rfl rfl (okb b4) rfl ?_
            refine WL.gno rfl rfl (okb b4) rfl ?_
            refine WL.y rfl (Yld.pickF (okb b4) rfl) ?_
            exact WL.weaken (by repeat (first | exact Sub.nil | refine Sub.cons rfl ?_)) (hQ _ _ ⟨false, rfl, by rw [b4] <;> rfl, rfl⟩)
    · clear hJ1
      rcases Bool.eq_false_or_eq_true (left && (decide (a < (s.length : Int)))) with b5 | b5
      · replace H := H.1 b5
        refine WL.gyes rfl rfl (okb b5) rfl (Yld.pure tab_ok rfl) ?_
        refine WL.gyes rfl rfl (okb b5) rfl (Yld.pure tab_ok rfl) ?_
        obtain ⟨h6, H⟩ := H
        refine WL.gyes rfl rfl (okb b5) rfl (Yld.sidx tab_ok rfl rfl rfl h6.1 h6.2) ?_
        refine WL.gyes rfl rfl (okb b5) rfl (Yld.pure tab_ok rfl) ?_
        refine WL.callw (wants_some rfl rfl (okb b5)) rfl rfl (W_smithyref11_strips H) ?_
        rintro _ _ ⟨rfl, t24, rfl, H⟩
        refine WL.y rfl (Yld.pickT (okb b5) rfl) ?_
        exact WL.weaken (by repeat (first | exact Sub.nil | refine Sub.cons rfl ?_)) (hQ _ _ ⟨t24, rfl, H, rfl⟩)
      · replace H := H.2 b5
        refine WL.gno rfl rfl (okb b5) rfl ?_
        refine WL.gno rfl rfl (okb b5) rfl ?_
        refine WL.gno rfl rfl (okb b5) rfl ?_
        refine WL.gno rfl rfl (okb b5) rfl ?_
        refine WL.gno rfl rfl (okb b5) rfl ?_
        refine WL.y rfl (Yld.pickF (okb b5) rfl) ?_
        exact WL.weaken (by repeat (first | exact Sub.nil | refine Sub.cons rfl ?_)) (hQ _ _ ⟨false, rfl, H, rfl⟩)
  · clear H
    rcases Bool.eq_false_or_eq_true (left) with b6 | b6
    · refine WL.gyes rfl rfl (okb b6) rfl (Yld.pure tab_ok rfl) ?_
      refine WL.gyes rfl rfl (okb b6) rfl (Yld.pure tab_ok rfl) ?_
      refine WL.gyes rfl rfl (okb b6) rfl (Yld.pure tab_ok rfl) ?_
      refine WL.y rfl (Yld.pickT (okb b6) rfl) ?_
      exact WL.weaken (by repeat (first | exact Sub.nil | refine Sub.cons rfl ?_)) (hQ _ _ ⟨decide (a < (s.length : Int)), rfl, by rw [b6] <;> rfl, rfl⟩)
    · refine WL.gno rfl rfl (okb b6) rfl ?_
      refine WL.gno rfl rfl (okb b6) rfl ?_
      refine WL.gno rfl rfl (okb b6) rfl ?_
      refine WL.y rfl (Yld.pickF (okb b6) rfl) ?_
      exact WL.weaken (by repeat (first | exact Sub.nil | refine Sub.cons rfl ?_)) (hQ _ _ ⟨false, rfl, by rw [b6] <;> rfl, rfl⟩)

set_option maxHeartbeats 8000000 in
theorem W_smithyref11_Turn {w : World} {s : List UInt8} {up : Bool} {K : (List UInt8) → Prop} (H : M_smithyref11_Turn s up K) : Fn Tryd.prog 41 ⟨[vs s, .bool up]⟩ w (fun v w' => w.grownBy w' none ∧ ∃ (r : List UInt8), v = vs r ∧ K r) := by
  unfold M_smithyref11_Turn at H
  refine Fn.enter (by kernel_rfl) Tryd.func41 rfl Tryd.ntmps41 rfl ?_
  refine WC.seq ?_
  refine WC.region ?_
  refine WL.y rfl (Yld.pure tab_ok rfl) ?_
  refine WL.nil (WX.then_normal ?_)
  refine WC.seq ?_
  refine WC.region ?_
  refine WL.y rfl (Yld.pure tab_ok rfl) ?_
  refine WL.y rfl (Yld.pure tab_ok rfl) ?_
  obtain ⟨h1, H⟩ := H
  refine WL.makeCI (f := vb) (B := w.heap.size) tab_ok rfl rfl rfl rfl h1.1 h1.2.1 h1.2.2 (Nat.le_refl _) (fun g1 w1 hO1 hg1 hl1 => ?_)
  have gr1 := hg1
  refine WL.y rfl (Yld.pure tab_ok rfl) ?_
  obtain ⟨h2, H⟩ := H
  refine WL.appendS tab_ok rfl rfl rfl hO1 rfl rfl rfl h2 (applen h2) (size_le gr1) (fun A_b c_b w2 hO2 hg2 hk1 => ?_)
  have gr2 := gr_mod gr1 hg2 hO1.ge'
  refine WL.y rfl (Yld.pure tab_ok rfl) ?_
  refine WL.nil (WX.then_normal ?_)
  refine WC.seq ?_
  refine WC.seq ?_
  refine WC.region ?_
  refine WL.y rfl (Yld.pure tab_ok rfl) ?_
  refine WL.nil (WX.then_normal ?_)
  refine WC.block ?_
  obtain ⟨I1, mu1, h0_1, HR1⟩ := H
  refine WC.loopF (fun n' L' w' => ∃ (i : Int), ∃ (b : List UInt8), n' = mu1 i b ∧ L' = [(1, .bool up), (5, .slice A_b ((([] : List UInt8) ++ s).length) c_b), (6, .int .i64 i)] ∧ I1 i b ∧ (([] : List UInt8) ++ s).length = b.length ∧ w.grownBy w' none ∧ Own vb w' w.heap.size 5 A_b c_b b) _ _ ⟨(0 : Int), ([] : List UInt8) ++ s, rfl, rfl, h0_1, rfl, gr2, hO2⟩ (by repeat (first | exact Sub.nil | refine Sub.cons rfl ?_)) ?_
  clear h0_1
  rintro _ _ w3 ⟨i, b, rfl, rfl, hI1, hn_b, gr3, k1⟩
  have H := HR1 i b hI1
  replace H := H hn_b
  refine WC.seq ?_
  refine WC.seq ?_
  refine WC.region ?_
  refine WL.y rfl (Yld.pure tab_ok rfl) ?_
  refine WL.y rfl (Yld.pure tab_ok rfl) ?_
  refine WL.y rfl (Yld.pure tab_ok rfl) ?_
  refine WL.y rfl (Yld.pure tab_ok rfl) ?_
  refine WL.nil (WX.then_normal ?_)
  refine WC.cond rfl (fun b1 => ?_) (fun b1 => ?_)
  · replace H := H.1 (of_decide_eq_true b1)
    refine WC.skip (WX.then_normal ?_)
    refine WC.seq ?_
    obtain ⟨J1, H, hJ1⟩ := H
    refine WC.midF (fun L' w' => ∃ (xs : List UInt8), L' = [(1, .bool up), (5, .slice A_b ((([] : List UInt8) ++ s).length) c_b), (6, .int .i64 i)] ∧ J1 xs ∧ (([] : List UInt8) ++ s).length = xs.length ∧ w.grownBy w' none ∧ Own vb w' w.heap.size 5 A_b c_b xs) ?_ (fun hQ => ?_)
    · clear H
      rintro _ w4 ⟨xs, rfl, H, hn_xs, gr4, k2⟩
      replace H := hJ1 xs H
      replace H := H hn_xs
      refine WX.then_normal ?_
      refine WC.region ?_
      refine WL.y rfl (Yld.pure tab_ok rfl) ?_
      obtain ⟨h3, H⟩ := H
      refine WL.y rfl (Yld.add rfl rfl h3) ?_
      refine WL.y rfl (Yld.pure tab_ok rfl) ?_
      refine WL.nil ?_
      exact WX.roundF _ ⟨i + (1 : Int), xs, rfl, rfl, H.1, hn_xs, gr4, k2⟩ (by repeat (first | exact Sub.nil | refine Sub.cons rfl ?_)) H.2
    · clear hJ1
      refine WC.block ?_
      refine WC.seq ?_
      refine WC.region ?_
      refine WL.y rfl (Yld.pure tab_ok rfl) ?_
      refine WL.y rfl (Yld.pure tab_ok rfl) ?_
      obtain ⟨h4, H⟩ := H
      refine WL.midF 6 (fun L' w' => ∃ q1 : Bool, L' = [(25, .bool q1), (1, .bool up), (5, .slice A_b ((([] : List UInt8) ++ s).length) c_b), (6, .int .i64 i)] ∧ q1 = (up && (decide ((97 : Int) ≤ ((b.getD i.toNat 0).toNat : Int)))) ∧ w3 = w') ?_ (fun hQ => ?_)
      · rintro _ _ ⟨q1, rfl, rfl, rfl⟩
        refine WL.y rfl (Yld.pure tab_ok rfl) ?_
        obtain ⟨h5, H⟩ := H
        refine WL.midF 6 (fun L' w' => ∃ q2 : Bool, L' = [(32, .bool q2), (1, .bool up), (5, .slice A_b ((([] : List UInt8) ++ s).length) c_b), (6, .int .i64 i)] ∧ q2 = ((up && (decide ((97 : Int) ≤ ((b.getD i.toNat 0).toNat : Int)))) && (decide (((b.getD i.toNat 0).toNat : Int) ≤ (122 : Int)))) ∧ w3 = w') ?_ (fun hQ => ?_)
        · rintro _ _ ⟨q2, rfl, rfl, rfl⟩
          refine WL.nil (WX.then_normal ?_)
          refine WC.cond rfl (fun b2 => ?_) (fun b2 => ?_)
          · replace H := H.1 (b2)
            refine WC.region ?_
            refine WL.y rfl (Yld.pure tab_ok rfl) ?_
            refine WL.y rfl (Yld.pure tab_ok rfl) ?_
            refine WL.y rfl (Yld.pure tab_ok rfl) ?_
            refine WL.y rfl (Yld.pure tab_ok rfl) ?_
            obtain ⟨h6, H⟩ := H
            refine WL.y rfl (Yld.iaddrW tab_ok k1.rd rfl rfl hn_b rfl h6.1 h6.2) ?_
            refine WL.y rfl (Yld.iload 0 tab_ok k1.rd rfl rfl (iltN h6 hn_b)) ?_
            obtain ⟨h7, H⟩ := H
            refine WL.y rfl (Yld.sub rfl rfl h7) ?_
            obtain ⟨h8, H⟩ := H
            refine WL.y rfl (Yld.iaddrW tab_ok k1.rd rfl rfl hn_b rfl h8.1 h8.2) ?_
            obtain ⟨h9, H⟩ := H
            refine WL.ostore (v := UInt8.ofNat (((b.getD i.toNat 0).toNat : Int) - (32 : Int)).toNat) one5 One.b k1 rfl (byte_eq h9) (iltN h8 hn_b) (fun w5 hO3 hg3 => ?_)
            have gr5 := gr_mod gr3 hg3 k1.ge'
            refine WL.nil (WX.block_normal ?_)
            exact WX.weaken (by repeat (first | exact Sub.nil | refine Sub.cons rfl ?_)) (hQ _ _ ⟨b.set i.toNat (UInt8.ofNat (((b.getD i.toNat 0).toNat : Int) - (32 : Int)).toNat), rfl, H, (hn_b.trans List.length_set.symm), gr5, hO3⟩)
          · replace H := H.2 (b2)
            refine WC.seq ?_
            refine WC.region ?_
            refine WL.y rfl (Yld.pure tab_ok rfl) ?_
            refine WL.y rfl (Yld.pure tab_ok rfl) ?_
            refine WL.y rfl (Yld.pure tab_ok rfl) ?_
            obtain ⟨h10, H⟩ := H
            refine WL.midF 6 (fun L' w' => ∃ q3 : Bool, L' = [(49, .bool q3), (1, .bool up), (5, .slice A_b ((([] : List UInt8) ++ s).length) c_b), (6, .int .i64 i)] ∧ q3 = ((!up) && (decide ((65 : Int) ≤ ((b.getD i.toNat 0).toNat : Int)))) ∧ w3 = w') ?_ (fun hQ => ?_)
            · rintro _ _ ⟨q3, rfl, rfl, rfl⟩
              refine WL.y rfl (Yld.pure tab_ok rfl) ?_
              obtain ⟨h11, H⟩ := H
              refine WL.midF 6 (fun L' w' => ∃ q4 : Bool, L' = [(56, .bool q4), (1, .bool up), (5, .slice A_b ((([] : List UInt8) ++ s).length) c_b), (6, .int .i64 i)] ∧ q4 = (((!up) && (decide ((65 : Int) ≤ ((b.getD i.toNat 0).toNat : Int)))) && (decide (((b.getD i.toNat 0).toNat : Int) ≤ (90 : Int)))) ∧ w3 = w') ?_ (fun hQ => ?_)
              · rintro _ _ ⟨q4, rfl, rfl, rfl⟩
                refine WL.nil (WX.then_normal ?_)
                refine WC.cond rfl (fun b3 => ?_) (fun b3 => ?_)
                · replace H := H.1 (b3)
                  refine WC.region ?_
                  refine WL.y rfl (Yld.pure tab_ok rfl) ?_
                  refine WL.y rfl (Yld.pure tab_ok rfl) ?_
                  refine WL.y rfl (Yld.pure tab_ok rfl) ?_
                  refine WL.y rfl (Yld.pure tab_ok rfl) ?_
                  obtain ⟨h12, H⟩ := H
                  refine WL.y rfl (Yld.iaddrW tab_ok k1.rd rfl rfl hn_b rfl h12.1 h12.2) ?_
                  refine WL.y rfl (Yld.iload 0 tab_ok k1.rd rfl rfl (iltN h12 hn_b)) ?_
                  obtain ⟨h13, H⟩ := H
                  refine WL.y rfl (Yld.add rfl rfl h13) ?_
                  obtain ⟨h14, H⟩ := H
                  refine WL.y rfl (Yld.iaddrW tab_ok k1.rd rfl rfl hn_b rfl h14.1 h14.2) ?_
                  obtain ⟨h15, H⟩ := H
                  refine WL.ostore (v := UInt8.ofNat (((b.getD i.toNat 0).toNat : Int) + (32 : Int)).toNat) one5 One.b k1 rfl (byte_eq h15) (iltN h14 hn_b) (fun w6 hO4 hg4 => ?_)
                  have gr6 := gr_mod gr3 hg4 k1.ge'
                  refine WL.nil (WX.block_normal ?_)
                  exact WX.weaken (by repeat (first | exact Sub.nil | refine Sub.cons rfl ?_)) (hQ _ _ ⟨b.set i.toNat (UInt8.ofNat (((b.getD i.toNat 0).toNat : Int) + (32 : Int)).toNat), rfl, H, (hn_b.trans List.length_set.symm), gr6, hO4⟩)
                · replace H := H.2 (b3)
                  refine WC.skip (WX.block_normal ?_)
                  exact WX.weaken (by repeat (first | exact Sub.nil | refine Sub.cons rfl ?_)) (hQ _ _ ⟨b, rfl, H, hn_b, gr3, k1⟩)
              · clear H
                rcases Bool.eq_false_or_eq_true ((!up) && (decide ((65 : Int) ≤ ((b.getD i.toNat 0).toNat : Int)))) with b4 | b4
                · refine WL.gyes rfl rfl (okb b4) rfl (Yld.pure tab_ok rfl) ?_
                  refine WL.gyes rfl rfl (okb b4) rfl (Yld.pure tab_ok rfl) ?_
                  refine WL.gyes rfl rfl (okb b4) rfl (Yld.iaddrW tab_ok k1.rd rfl rfl hn_b rfl (h11 b4).1 (h11 b4).2) ?_
                  refine WL.gyes rfl rfl (okb b4) rfl (Yld.iload 0 tab_ok k1.rd rfl rfl (iltN (h11 b4) hn_b)) ?_
                  refine WL.gyes rfl rfl (okb b4) rfl (Yld.pure tab_ok rfl) ?_
                  refine WL.y rfl (Yld.pickT (okb b4) rfl) ?_
                  exact WL.weaken (by repeat (first | exact Sub.nil | refine Sub.cons rfl ?_)) (hQ _ _ ⟨decide (((b.getD i.toNat 0).toNat : Int) ≤ (90 : Int)), rfl, by rw [b4] <;> rfl, rfl⟩)
                · refine WL.gno rfl rfl (okb b4) rfl ?_
                  refine WL.gno rfl rfl (okb b4) rfl ?_
                  refine WL.gno rfl rfl (okb b4) rfl ?_
                  refine WL.gno rfl rfl (okb b4) rfl ?_
                  refine WL.gno rfl rfl (okb b4) rfl ?_
                  refine WL.y rfl (Yld.pickF (okb b4) rfl) ?_
                  exact WL.weaken (by repeat (first | exact Sub.nil | refine Sub.cons rfl ?_)) (hQ _ _ ⟨false, rfl, by rw [b4] <;> rfl, rfl⟩)
            · clear H
              rcases Bool.eq_false_or_eq_true (!up) with b5 | b5
              · refine WL.gyes rfl rfl (okb b5) rfl (Yld.pure tab_ok rfl) ?_
                refine WL.gyes rfl rfl (okb b5) rfl (Yld.pure tab_ok rfl) ?_
                refine WL.gyes rfl rfl (okb b5) rfl (Yld.iaddrW tab_ok k1.rd rfl rfl hn_b rfl (h10 b5).1 (h10 b5).2) ?_
                refine WL.gyes rfl rfl (okb b5) rfl (Yld.iload 0 tab_ok k1.rd rfl rfl (iltN (h10 b5) hn_b)) ?_
                refine WL.gyes rfl rfl (okb b5) rfl (Yld.pure tab_ok rfl) ?_
                refine WL.y rfl (Yld.pickT (okb b5) rfl) ?_
                exact WL.weaken (by repeat (first | exact Sub.nil | refine Sub.cons rfl ?_)) (hQ _ _ ⟨decide ((65 : Int) ≤ ((b.getD i.toNat 0).toNat : Int)), rfl, by rw [b5] <;> rfl, rfl⟩)
              · refine WL.gno rfl rfl (okb b5) rfl ?_
                refine WL.gno rfl rfl (okb b5) rfl ?_
                refine WL.gno rfl rfl (okb b5) rfl ?_
                refine WL.gno rfl rfl (okb b5) rfl ?_
                refine WL.gno rfl rfl (okb b5) rfl ?_
                refine WL.y rfl (Yld.pickF (okb b5) rfl) ?_
                exact WL.weaken (by repeat (first | exact Sub.nil | refine Sub.cons rfl ?_)) (hQ _ _ ⟨false, rfl, by rw [b5] <;> rfl, rfl⟩)
        · clear H
          rcases Bool.eq_false_or_eq_true (up && (decide ((97 : Int) ≤ ((b.getD i.toNat 0).toNat : Int)))) with b6 | b6
          · refine WL.gyes rfl rfl (okb b6) rfl (Yld.pure tab_ok rfl) ?_
            refine WL.gyes rfl rfl (okb b6) rfl (Yld.pure tab_ok rfl) ?_
            refine WL.gyes rfl rfl (okb b6) rfl (Yld.iaddrW tab_ok k1.rd rfl rfl hn_b rfl (h5 b6).1 (h5 b6).2) ?_
            refine WL.gyes rfl rfl (okb b6) rfl (Yld.iload 0 tab_ok k1.rd rfl rfl (iltN (h5 b6) hn_b)) ?_
            refine WL.gyes rfl rfl (okb b6) rfl (Yld.pure tab_ok rfl) ?_
            refine WL.y rfl (Yld.pickT (okb b6) rfl) ?_
            exact WL.weaken (by repeat (first | exact Sub.nil | refine Sub.cons rfl ?_)) (hQ _ _ ⟨decide (((b.getD i.toNat 0).toNat : Int) ≤ (122 : Int)), rfl, by rw [b6] <;> rfl, rfl⟩)
          · refine WL.gno rfl rfl (okb b6) rfl ?_
            refine WL.gno rfl rfl (okb b6) rfl ?_
            refine WL.gno rfl rfl (okb b6) rfl ?_
            refine WL.gno rfl rfl (okb b6) rfl ?_
            refine WL.gno rfl rfl (okb b6) rfl ?_
            refine WL.y rfl (Yld.pickF (okb b6) rfl) ?_
            exact WL.weaken (by repeat (first | exact Sub.nil | refine Sub.cons rfl ?_)) (hQ _ _ ⟨false, rfl, by rw [b6] <;> rfl, rfl⟩)
      · clear H
        rcases Bool.eq_false_or_eq_true (up) with b7 | b7
        · refine WL.gyes rfl rfl (okb b7) rfl (Yld.pure tab_ok rfl) ?_
          refine WL.gyes rfl rfl (okb b7) rfl (Yld.pure tab_ok rfl) ?_
          refine WL.gyes rfl rfl (okb b7) rfl (Yld.iaddrW tab_ok k1.rd rfl rfl hn_b rfl (h4 b7).1 (h4 b7).2) ?_
          refine WL.gyes rfl rfl (okb b7) rfl (Yld.iload 0 tab_ok k1.rd rfl rfl (iltN (h4 b7) hn_b)) ?_
          refine WL.gyes rfl rfl (okb b7) rfl (Yld.pure tab_ok rfl) ?_
          refine WL.y rfl (Yld.pickT (okb b7) rfl) ?_
          exact WL.weaken (by repeat (first | exact Sub.nil | refine Sub.cons rfl ?_)) (hQ _ _ ⟨decide ((97 : Int) ≤ ((b.getD i.toNat 0).toNat : Int)), rfl, by rw [b7] <;> rfl, rfl⟩)
        · refine WL.gno rfl rfl (okb b7) rfl ?_
          refine WL.gno rfl rfl (okb b7) rfl ?_
          refine WL.gno rfl rfl (okb b7) rfl ?_
          refine WL.gno rfl rfl (okb b7) rfl ?_
          refine WL.gno rfl rfl (okb b7) rfl ?_
          refine WL.y rfl (Yld.pickF (okb b7) rfl) ?_
          exact WL.weaken (by repeat (first | exact Sub.nil | refine Sub.cons rfl ?_)) (hQ _ _ ⟨false, rfl, by rw [b7] <;> rfl, rfl⟩)
  · replace H := H.2 (of_decide_eq_false b1)
    refine WC.exit (WX.then_exit (WX.then_exit (WX.block_same (WX.then_normal ?_))))
    refine WC.seq ?_
    refine WC.region ?_
    refine WL.y rfl (Yld.pure tab_ok rfl) ?_
    refine WL.y rfl (Yld.b2s tab_ok k1.rd rfl rfl rfl rfl hn_b) ?_
    refine WL.y rfl (Yld.pure tab_ok rfl) ?_
    refine WL.nil (WX.then_normal ?_)
    refine WC.ret ?_
    exact WX.ret1 rfl rfl ⟨gr3, b, rfl, H⟩

set_option maxHeartbeats 8000000 in
theorem W_smithyref11_Repeat {w : World} {s : List UInt8} {n : Int} {K : (List UInt8) → Int → Prop} (H : M_smithyref11_Repeat s n K) : Fn Tryd.prog 35 ⟨[vs s, .int .i64 n]⟩ w (fun v w' => w.grownBy w' none ∧ ∃ (r0 : List UInt8), ∃ (r1 : Int), v = .tuple #[vs r0, .int .i64 r1] ∧ K r0 r1) := by
  unfold M_smithyref11_Repeat at H
  refine Fn.enter (by kernel_rfl) Tryd.func35 rfl Tryd.ntmps35 rfl ?_
  refine WC.seq ?_
  refine WC.region ?_
  refine WL.y rfl (Yld.pure tab_ok rfl) ?_
  refine WL.y rfl (Yld.pure tab_ok rfl) ?_
  refine WL.nil (WX.then_normal ?_)
  refine WC.seq ?_
  refine WC.seq ?_
  refine WC.region ?_
  refine WL.y rfl (Yld.pure tab_ok rfl) ?_
  refine WL.y rfl (Yld.pure tab_ok rfl) ?_
  refine WL.y rfl (Yld.pure tab_ok rfl) ?_
  refine WL.midF 3 (fun L' w' => ∃ q1 : Bool, L' = [(13, .bool q1), (0, vs s), (1, .int .i64 n)] ∧ q1 = ((decide (n < (1 : Int))) || (decide (s = ([] : List UInt8)))) ∧ w = w') ?_ (fun hQ => ?_)
  · rintro _ _ ⟨q1, rfl, rfl, rfl⟩
    refine WL.nil (WX.then_normal ?_)
    refine WC.cond rfl (fun b1 => ?_) (fun b1 => ?_)
    · replace H := H.1 (b1)
      refine WC.seq ?_
      refine WC.region ?_
      refine WL.y rfl (Yld.pure tab_ok rfl) ?_
      refine WL.y rfl (Yld.pure tab_ok rfl) ?_
      refine WL.nil (WX.then_normal ?_)
      refine WC.ret (WX.then_ret ?_)
      exact WX.ret2 rfl rfl rfl ⟨(gr_refl _ _), ([] : List UInt8), (0 : Int), rfl, H⟩
    · replace H := H.2 (b1)
      refine WC.skip (WX.then_normal ?_)
      refine WC.seq ?_
      refine WC.seq ?_
      refine WC.region ?_
      refine WL.y rfl (Yld.pure tab_ok rfl) ?_
      refine WL.y rfl (Yld.pure tab_ok rfl) ?_
      refine WL.y rfl (Yld.pure tab_ok rfl) ?_
      obtain ⟨h1, H⟩ := H
      refine WL.y rfl (Yld.quo rfl rfl h1.1 h1.2.1 h1.2.2) ?_
      refine WL.y rfl (Yld.pure tab_ok rfl) ?_
      refine WL.nil (WX.then_normal ?_)
      refine WC.cond rfl (fun b2 => ?_) (fun b2 => ?_)
      · replace H := H.1 (of_decide_eq_true b2)
        refine WC.seq ?_
        refine WC.region ?_
        refine WL.y rfl (Yld.pure tab_ok rfl) ?_
        refine WL.y rfl (Yld.pure tab_ok rfl) ?_
        refine WL.nil (WX.then_normal ?_)
        refine WC.ret (WX.then_ret ?_)
        exact WX.ret2 rfl rfl rfl ⟨(gr_refl _ _), ([] : List UInt8), (108 : Int), rfl, H⟩
      · replace H := H.2 (of_decide_eq_false b2)
        refine WC.skip (WX.then_normal ?_)
        refine WC.seq ?_
        refine WC.region ?_
        refine WL.y rfl (Yld.pure tab_ok rfl) ?_
        refine WL.nil (WX.then_normal ?_)
        refine WC.seq ?_
        refine WC.seq ?_
        refine WC.region ?_
        refine WL.y rfl (Yld.pure tab_ok rfl) ?_
        refine WL.nil (WX.then_normal ?_)
        refine WC.block ?_
        obtain ⟨I1, mu1, h0_1, HR1⟩ := H
        refine WC.loopF (fun n' L' w' => ∃ (b : List UInt8), ∃ (A_b : Option Addr), ∃ (c_b : Nat), ∃ (n_b : Nat), ∃ (i : Int), n' = mu1 b i ∧ L' = [(0, vs s), (1, .int .i64 n), (6, .slice A_b n_b c_b), (7, .int .i64 i)] ∧ I1 b i ∧ n_b = b.length ∧ w.grownBy w' none ∧ Own vb w' w.heap.size 5 A_b c_b b) _ _ ⟨[], none, 0, 0, (0 : Int), rfl, rfl, h0_1, rfl, (gr_refl _ _), (Own.nil vb w w.heap.size 5)⟩ (by repeat (first | exact Sub.nil | refine Sub.cons rfl ?_)) ?_
        clear h0_1
        rintro _ _ w1 ⟨b, A_b, c_b, n_b, i, rfl, rfl, hI1, rfl, gr1, k1⟩
        have H := HR1 b i hI1
        refine WC.seq ?_
        refine WC.seq ?_
        refine WC.region ?_
        refine WL.y rfl (Yld.pure tab_ok rfl) ?_
        refine WL.y rfl (Yld.pure tab_ok rfl) ?_
        refine WL.y rfl (Yld.pure tab_ok rfl) ?_
        refine WL.nil (WX.then_normal ?_)
        refine WC.cond rfl (fun b3 => ?_) (fun b3 => ?_)
        · replace H := H.1 (of_decide_eq_true b3)
          refine WC.skip (WX.then_normal ?_)
          refine WC.seq ?_
          refine WC.block ?_
          refine WC.region ?_
          refine WL.y rfl (Yld.pure tab_ok rfl) ?_
          refine WL.y rfl (Yld.pure tab_ok rfl) ?_
          obtain ⟨h2, H⟩ := H
          refine WL.appendS tab_ok rfl rfl rfl k1 rfl rfl rfl h2 (applen h2) (size_le gr1) (fun A_b2 c_b2 w2 hO1 hg1 hk1 => ?_)
          have gr2 := gr_mod gr1 hg1 k1.ge'
          refine WL.y rfl (Yld.pure tab_ok rfl) ?_
          refine WL.nil (WX.block_normal (WX.then_normal ?_))
          refine WC.region ?_
          refine WL.y rfl (Yld.pure tab_ok rfl) ?_
          obtain ⟨h3, H⟩ := H
          refine WL.y rfl (Yld.add rfl rfl h3) ?_
          refine WL.y rfl (Yld.pure tab_ok rfl) ?_
          refine WL.nil ?_
          exact WX.roundF _ ⟨b ++ s, A_b2, c_b2, (b ++ s).length, i + (1 : Int), rfl, rfl, H.1, rfl, gr2, hO1⟩ (by repeat (first | exact Sub.nil | refine Sub.cons rfl ?_)) H.2
        · replace H := H.2 (of_decide_eq_false b3)
          refine WC.exit (WX.then_exit (WX.then_exit (WX.block_same (WX.then_normal ?_))))
          refine WC.seq ?_
          refine WC.region ?_
          refine WL.y rfl (Yld.pure tab_ok rfl) ?_
          refine WL.y rfl (Yld.b2s tab_ok k1.rd rfl rfl rfl rfl rfl) ?_
          refine WL.y rfl (Yld.pure tab_ok rfl) ?_
          refine WL.y rfl (Yld.pure tab_ok rfl) ?_
          refine WL.nil (WX.then_normal ?_)
          refine WC.ret ?_
          exact WX.ret2 rfl rfl rfl ⟨gr1, b, (0 : Int), rfl, H⟩
  · clear H
    rcases Bool.eq_false_or_eq_true (decide (n < (1 : Int))) with b4 | b4
    · refine WL.gno rfl rfl (okb b4) rfl ?_
      refine WL.gno rfl rfl (okb b4) rfl ?_
      refine WL.y rfl (Yld.pickT (okb b4) rfl) ?_
      exact WL.weaken (by repeat (first | exact Sub.nil | refine Sub.cons rfl ?_)) (hQ _ _ ⟨true, rfl, by rw [b4] <;> rfl, rfl⟩)
    · refine WL.gyes rfl rfl (okb b4) rfl (Yld.pure tab_ok rfl) ?_
      refine WL.gyes rfl rfl (okb b4) rfl (Yld.pure tab_ok rfl) ?_
      refine WL.y rfl (Yld.pickF (okb b4) rfl) ?_
      exact WL.weaken (by repeat (first | exact Sub.nil | refine Sub.cons rfl ?_)) (hQ _ _ ⟨decide (s = ([] : List UInt8)), rfl, by rw [b4] <;> rfl, rfl⟩)

set_option maxHeartbeats 8000000 in
theorem W_smithyref11_IsDigits {w : World} {s : List UInt8} {K : Bool → Prop} (H : M_smithyref11_IsDigits s K) : Fn Tryd.prog 43 ⟨[vs s]⟩ w (fun v w' => w = w' ∧ ∃ (r : Bool), v = .bool r ∧ K r) := by
  unfold M_smithyref11_IsDigits at H
  refine Fn.enter (by kernel_rfl) Tryd.func43 rfl Tryd.ntmps43 rfl ?_
  refine WC.seq ?_
  refine WC.region ?_
  refine WL.y rfl (Yld.pure tab_ok rfl) ?_
  refine WL.nil (WX.then_normal ?_)
  refine WC.seq ?_
  refine WC.seq ?_
  refine WC.region ?_
  refine WL.y rfl (Yld.pure tab_ok rfl) ?_
  refine WL.nil (WX.then_normal ?_)
  refine WC.block ?_
  obtain ⟨I1, mu1, h0_1, HR1⟩ := H
  refine WC.loopF (fun n' L' w' => ∃ (i : Int), n' = mu1 i ∧ L' = [(0, vs s), (3, .int .i64 i)] ∧ I1 i ∧ w = w') _ _ ⟨(0 : Int), rfl, rfl, h0_1, rfl⟩ (by repeat (first | exact Sub.nil | refine Sub.cons rfl ?_)) ?_
  clear h0_1
  rintro _ _ _ ⟨i, rfl, rfl, hI1, rfl⟩
  have H := HR1 i hI1
  refine WC.seq ?_
  refine WC.seq ?_
  refine WC.region ?_
  refine WL.y rfl (Yld.pure tab_ok rfl) ?_
  refine WL.y rfl (Yld.pure tab_ok rfl) ?_
  refine WL.y rfl (Yld.pure tab_ok rfl) ?_
  refine WL.y rfl (Yld.pure tab_ok rfl) ?_
  refine WL.nil (WX.then_normal ?_)
  refine WC.cond rfl (fun b1 => ?_) (fun b1 => ?_)
  · replace H := H.1 (of_decide_eq_true b1)
    refine WC.skip (WX.then_normal ?_)
    refine WC.seq ?_
    refine WC.block ?_
    refine WC.seq ?_
    refine WC.region ?_
    refine WL.y rfl (Yld.pure tab_ok rfl) ?_
    refine WL.y rfl (Yld.pure tab_ok rfl) ?_
    obtain ⟨h1, H⟩ := H
    refine WL.y rfl (Yld.sidx tab_ok rfl rfl rfl h1.1 h1.2) ?_
    refine WL.y rfl (Yld.pure tab_ok rfl) ?_
    refine WL.y rfl (Yld.pure tab_ok rfl) ?_
    obtain ⟨h2, H⟩ := H
    refine WL.midF 5 (fun L' w' => ∃ q1 : Bool, L' = [(19, .bool q1), (0, vs s), (3, .int .i64 i)] ∧ q1 = ((decide (((s.getD i.toNat 0).toNat : Int) < (48 : Int))) || (decide ((57 : Int) < ((s.getD i.toNat 0).toNat : Int)))) ∧ w = w') ?_ (fun hQ => ?_)
    · rintro _ _ ⟨q1, rfl, rfl, rfl⟩
      refine WL.nil (WX.then_normal ?_)
      refine WC.cond rfl (fun b2 => ?_) (fun b2 => ?_)
      · replace H := H.1 (b2)
        refine WC.seq ?_
        refine WC.region ?_
        refine WL.y rfl (Yld.pure tab_ok rfl) ?_
        refine WL.nil (WX.then_normal ?_)
        refine WC.ret (WX.block_ret (WX.then_ret (WX.then_ret (WX.block_ret (WX.then_ret ?_)))))
        exact WX.ret1 rfl rfl ⟨rfl, false, rfl, H⟩
      · replace H := H.2 (b2)
        refine WC.skip (WX.block_normal (WX.then_normal ?_))
        refine WC.region ?_
        refine WL.y rfl (Yld.pure tab_ok rfl) ?_
        obtain ⟨h3, H⟩ := H
        refine WL.y rfl (Yld.add rfl rfl h3) ?_
        refine WL.y rfl (Yld.pure tab_ok rfl) ?_
        refine WL.nil ?_
        exact WX.roundF _ ⟨i + (1 : Int), rfl, rfl, H.1, rfl⟩ (by repeat (first | exact Sub.nil | refine Sub.cons rfl ?_)) H.2
    · clear H
      rcases Bool.eq_false_or_eq_true (decide (((s.getD i.toNat 0).toNat : Int) < (48 : Int))) with b3 | b3
      · refine WL.gno rfl rfl (okb b3) rfl ?_
        refine WL.gno rfl rfl (okb b3) rfl ?_
        refine WL.gno rfl rfl (okb b3) rfl ?_
        refine WL.gno rfl rfl (okb b3) rfl ?_
        refine WL.y rfl (Yld.pickT (okb b3) rfl) ?_
        exact WL.weaken (by repeat (first | exact Sub.nil | refine Sub.cons rfl ?_)) (hQ _ _ ⟨true, rfl, by rw [b3] <;> rfl, rfl⟩)
      · refine WL.gyes rfl rfl (okb b3) rfl (Yld.pure tab_ok rfl) ?_
        refine WL.gyes rfl rfl (okb b3) rfl (Yld.pure tab_ok rfl) ?_
        refine WL.gyes rfl rfl (okb b3) rfl (Yld.sidx tab_ok rfl rfl rfl (h2 b3).1 (h2 b3).2) ?_
        refine WL.gyes rfl rfl (okb b3) rfl (Yld.pure tab_ok rfl) ?_
        refine WL.y rfl (Yld.pickF (okb b3) rfl) ?_
        exact WL.weaken (by repeat (first | exact Sub.nil | refine Sub.cons rfl ?_)) (hQ _ _ ⟨decide ((57 : Int) < ((s.getD i.toNat 0).toNat : Int)), rfl, by rw [b3] <;> rfl, rfl⟩)
  · replace H := H.2 (of_decide_eq_false b1)
    refine WC.exit (WX.then_exit (WX.then_exit (WX.block_same (WX.then_normal ?_))))
    refine WC.seq ?_
    refine WC.region ?_
    refine WL.y rfl (Yld.pure tab_ok rfl) ?_
    refine WL.y rfl (Yld.pure tab_ok rfl) ?_
    refine WL.y rfl (Yld.pure tab_ok rfl) ?_
    refine WL.nil (WX.then_normal ?_)
    refine WC.ret ?_
    exact WX.ret1 rfl rfl ⟨rfl, !decide (s = ([] : List UInt8)), rfl, H⟩

end Go.Proofs.YtjinkmipkfjblaaDoor

 /- Regions some of whose operations may come in several orders: the floats once, the others order by order, what stands behind once. -/
namespace Go.Proofs.YtjinkmipkfjblaaDoor
open Go Go.RowKit
section
variable {P : Program} {N : Nat} {ops : Array Oper} {fl : Nat → Bool} {D : World → Prop} {n g : Nat} {K : Act → World → Prop} {Q : Post} {L : Slots} {w : World} {f : Nat} {listed : Array Bool} {d : Nat} {op : Op} {ty : TypeId} {pos : String} {af : Array Edge} {gd : Option (Nat × Bool)}
structure HeadOk (ops : Array Oper) (n : Nat) : Prop where
  sel : Region.noSelect ops = true
  sink : Region.sinkB .any ops n = true
  chain : Region.chainB .any ops n = true
  lt : n < ops.size
def WA (P : Program) (N : Nat) (ops : Array Oper) (fl : Nat → Bool) (D : World → Prop) (n g : Nat) (K : Act → World → Prop) (f : Nat) (listed : Array Bool) (L : Slots) (w : World) : Prop :=
  HeadOk ops n → HeadInv .any ops n listed → ∀ a w1, Eqv w w1 → D w1 → Has N L a → anyT P .any ops fl D n (fun l' a' w' => Region.seqB .any ops g n l' = true ∧ K a' w') f listed a w1
def WI (P : Program) (N : Nat) (ops : Array Oper) (fl : Nat → Bool) (D : World → Prop) (n g : Nat) (K : Act → World → Prop) (f : Nat) (listed : Array Bool) (L : Slots) (w : World) (i : Nat) : Prop :=
  HeadOk ops n → HeadInv .any ops n (listed.setIfInBounds i true) → ∀ a w1, Eqv w w1 → D w1 → Has N L a → ∃ o, ops[i]? = some o ∧ fl i = false ∧ sRun P ops D o a w1 fun a' w' => anyT P .any ops fl D n (fun l' a' w' => Region.seqB .any ops g n l' = true ∧ K a' w') f (listed.setIfInBounds i true) a' w'
theorem WA.y {v : Value} (k : Nat) (ho : ops[k]? = some ⟨some d, op, ty, pos, af, none⟩) (hf : (fl k && ((Region.ready .any ops listed).contains k && (Region.free .any ops listed k && Nat.blt k n))) = true) (hd : Nat.blt d N = true) (hy : ∀ w', D w' → Yld P N w' ⟨some d, op, ty, pos, af, none⟩ L v)
    (h : WA P N ops fl D n g K f (listed.setIfInBounds k true) ((d, v) :: L) w) : WA P N ops fl D n g K (f + 1) listed L w := fun ok inv a w1 e hw ha => by
  simp only [Bool.and_eq_true] at hf
  obtain ⟨hfl, hr, hfr, hkn⟩ := hf
  have hr' : k ∈ Region.ready .any ops listed := by simpa using hr
  have hkn' : k < n := by simpa [Nat.blt_eq] using hkn
  exact float_firstT ho hfl (Region.noSelect_spec ok.sel) ok.sink ok.chain ok.lt hkn' (fun _ _ _ hL => seqB_ready hL.1) f listed a w1 hw inv (Region.free_spec ho hfr) hr'
    (.inl ⟨by simp [Region.wanted], fun w' hw' => hy w' hw' a w' (Eqv.refl _) ha⟩) (h ok (inv.set hr' hkn') _ _ e hw (ha.put hd v))
def AllL {α : Type} (p : α → Prop) : List α → Prop
  | [] => True
  | [x] => p x
  | x :: y :: l => p x ∧ AllL p (y :: l)
theorem AllL.mem {α : Type} {p : α → Prop} : ∀ {l : List α}, AllL p l → ∀ x ∈ l, p x
  | [], _, x, h => by simp at h
  | [y], h, x, hx => by simp at hx; subst hx; exact h
  | y :: z :: l, h, x, hx => by
    rcases List.mem_cons.1 hx with rfl | hx
    · exact h.1
    · exact AllL.mem h.2 x hx
theorem WA.split (is : List Nat) (hr : Region.ready .any ops listed = is) (hc : (!is.isEmpty && is.all fun i => Nat.blt i n) = true) (h : AllL (WI P N ops fl D n g K f listed L w) is) : WA P N ops fl D n g K (f + 1) listed L w := fun ok inv a w1 e hw ha => by
  simp only [Bool.and_eq_true] at hc
  refine ⟨fun h0 => ?_, fun i hi => ?_⟩
  · rw [hr] at h0; subst h0; simp at hc
  · have hi' := hi
    rw [hr] at hi'
    have hin : i < n := by have := List.all_eq_true.1 hc.2 i hi'; simpa [Nat.blt_eq] using this
    obtain ⟨o, ho, hfl, hs⟩ := h.mem i hi' ok (inv.set hi hin) a w1 e hw ha
    exact ⟨hin, o, ho, .inr ⟨hfl, hs⟩⟩
theorem WI.put {i : Nat} {R : Value → World → Prop} (ho : ops[i]? = some ⟨some d, op, ty, pos, af, none⟩) (hf : fl i = false) (hd : Nat.blt d N = true) (hr : Eff P N w ⟨some d, op, ty, pos, af, none⟩ L R) (hD : ∀ v w', R v w' → D w')
    (hk : ∀ v w', R v w' → WA P N ops fl D n g K f (listed.setIfInBounds i true) ((d, v) :: L) w') : WI P N ops fl D n g K f listed L w i := fun ok inv a w1 e hw ha => by
  refine ⟨_, ho, hf, ?_⟩
  unfold sRun
  rw [if_pos (by simp [Region.wanted])]
  obtain ⟨v, w', h, hR⟩ := hr a w1 e ha
  rw [h]
  exact ⟨hD v w' hR, hk v w' hR ok inv _ w' (Eqv.refl _) (hD v w' hR) (ha.put hd v)⟩
theorem WI.eff {i : Nat} {R : World → Prop} (ho : ops[i]? = some ⟨none, op, ty, pos, af, none⟩) (hf : fl i = false) (hr : Ef0 P N w ⟨none, op, ty, pos, af, none⟩ L R) (hD : ∀ w', R w' → D w')
    (hk : ∀ w', R w' → WA P N ops fl D n g K f (listed.setIfInBounds i true) L w') : WI P N ops fl D n g K f listed L w i := fun ok inv a w1 e hw ha => by
  refine ⟨_, ho, hf, ?_⟩
  unfold sRun
  rw [if_pos (by simp [Region.wanted])]
  obtain ⟨w', h, hR⟩ := hr a w1 e ha
  rw [h]
  exact ⟨hD w' hR, hk w' hR ok inv _ w' (Eqv.refl _) (hD w' hR) ha⟩
theorem WI.call {i : Nat} {R : Value → World → Prop} {fn : FuncId} {as_ : List Operand} {ts : Array TypeId} {vs : List Value} (ho : ops[i]? = some ⟨some d, .call ⟨.value (.func fn), ⟨as_⟩, ts⟩, ty, pos, af, gd⟩) (hf : fl i = false) (hg : Wants N ops L gd) (hd : Nat.blt d N = true) (hv : opvs L as_ = some vs) (hc : Fn P fn ⟨vs⟩ w R) (hD : ∀ v w', R v w' → ∀ w2, Eqv w' w2 → D w2)
    (hk : ∀ v w', R v w' → WA P N ops fl D n g K f (listed.setIfInBounds i true) ((d, v) :: L) w') : WI P N ops fl D n g K f listed L w i := fun ok inv a w1 e hw ha => by
  refine ⟨_, ho, hf, ?_⟩
  unfold sRun
  rw [if_pos (Wants.wanted (o := ⟨some d, .call ⟨.value (.func fn), ⟨as_⟩, ts⟩, ty, pos, af, gd⟩) hg ha), run_enter ha hv hc.1]
  refine (hc.2 w1 e).mono ?_
  rintro en w' ⟨v, w0, rfl, h0, hR⟩
  exact ⟨v, rfl, hD v w0 hR w' h0, hk v w0 hR ok inv _ w' h0 (hD v w0 hR w' h0) (ha.put hd v)⟩
end
end Go.Proofs.YtjinkmipkfjblaaDoor

 