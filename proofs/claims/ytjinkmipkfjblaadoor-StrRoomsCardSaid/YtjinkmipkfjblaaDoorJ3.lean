/- Texts of this claim, joined by a program: GSt, GSr, Ord, GSl, See, StrP, StrQ, StrR, StrF. -/
import Derived.Test.YtjinkmipkfjblaaDoorJ2
import Derived.Lib.SplitLaws
import Derived.Lib.Strings
import Derived.Lib.FieldsLaws
import Derived.Lib.Repeat
import Derived.Lib.IndexAny
/- Printed by a program (wip/vg): what the functions mean, plainly, and their walks. -/
namespace Go.Proofs.YtjinkmipkfjblaaDoor
open Go Go.RowKit
attribute [local irreducible] WL WC WX WQ WK WJ Yld Eff Ef0 Fn
def M_str_Split (s : List UInt8) (by_ : List UInt8) (most : Int) (K : (List (List UInt8)) → Er → Prop) : Prop :=
 ((by_ = ([] : List UInt8) → K [] (Er.e 3)) ∧
 (¬ (by_ = ([] : List UInt8)) → M_strings_Count s by_ (fun (n : Int) =>
 ∃ J1 : Int → Prop, ((((0 : Int) ≤ most → J1 (if most < n then most else n)) ∧
 (¬ ((0 : Int) ≤ most) → J1 n))) ∧
 (∀ n2 : Int, J1 n2 → (((1024 : Int) ≤ n2 → K [] (Er.e 7)) ∧
 (¬ ((1024 : Int) ≤ n2) → (In .i64 (n2 + (1 : Int))) ∧
 M_strings_SplitN s by_ (n2 + (1 : Int)) (fun (t6 : List (List UInt8)) =>
 K t6 Er.ok)))))))

def M_str_Join (by_ : List UInt8) (l : List (List UInt8)) (K : (List UInt8) → Er → Prop) : Prop :=
 (l.length ≤ maxLen →
 Lp2 (fun (n : Int) (t11 : Int) k_1 => ((t11 < (l.length : Int) → (0 ≤ t11 ∧ t11 < (l.length : Nat)) ∧
 ∃ J1 : Int → Prop, ((((0 : Int) < t11 → (In .i64 (n + (by_.length : Int))) ∧
 J1 (n + (by_.length : Int))) ∧
 (¬ ((0 : Int) < t11) → J1 n))) ∧
 (∀ n2 : Int, J1 n2 → (In .i64 (n2 + ((l.getD t11.toNat []).length : Int))) ∧
 (((1024 : Int) < (n2 + ((l.getD t11.toNat []).length : Int)) → K ([] : List UInt8) (Er.e 7)) ∧
 (¬ ((1024 : Int) < (n2 + ((l.getD t11.toNat []).length : Int))) → (In .i64 (t11 + (1 : Int))) ∧
 k_1 (n2 + ((l.getD t11.toNat []).length : Int)) (t11 + (1 : Int)))))) ∧
 (¬ (t11 < (l.length : Int)) → M_strings_Join l by_ (fun (t4 : List UInt8) =>
 K t4 Er.ok)))) (0 : Int) (0 : Int))

def M_str_Count (s : List UInt8) (what : List UInt8) (K : Int → Prop) : Prop :=
 ((what = ([] : List UInt8) → (In .i64 ((s.length : Int) + (1 : Int))) ∧
 K ((s.length : Int) + (1 : Int))) ∧
 (¬ (what = ([] : List UInt8)) → M_strings_Count s what (fun (t4 : Int) =>
 K t4)))

def M_str_Replace (s : List UInt8) (old : List UInt8) (by_ : List UInt8) (most : Int) (K : (List UInt8) → Er → Prop) : Prop :=
 M_str_Count s old (fun (n : Int) =>
 ∃ J1 : Int → Prop, ((((0 : Int) ≤ most → J1 (if most < n then most else n)) ∧
 (¬ ((0 : Int) ≤ most) → J1 n))) ∧
 (∀ n2 : Int, J1 n2 → (In .i64 (n2 * (old.length : Int))) ∧
 (In .i64 ((s.length : Int) - (n2 * (old.length : Int)))) ∧
 ((decide ((1024 : Int) < ((s.length : Int) - (n2 * (old.length : Int))))) = false → (decide ((0 : Int) < (by_.length : Int))) = true → (In .i64 (n2 * (old.length : Int)))) ∧
 ((decide ((1024 : Int) < ((s.length : Int) - (n2 * (old.length : Int))))) = false → (decide ((0 : Int) < (by_.length : Int))) = true → (In .i64 ((s.length : Int) - (n2 * (old.length : Int))))) ∧
 ((decide ((1024 : Int) < ((s.length : Int) - (n2 * (old.length : Int))))) = false → (decide ((0 : Int) < (by_.length : Int))) = true → (In .i64 ((1024 : Int) - ((s.length : Int) - (n2 * (old.length : Int)))))) ∧
 ((decide ((1024 : Int) < ((s.length : Int) - (n2 * (old.length : Int))))) = false → (decide ((0 : Int) < (by_.length : Int))) = true → (0 ≤ (1024 : Int) - ((s.length : Int) - (n2 * (old.length : Int))) ∧ 0 < (by_.length : Int) ∧ In .i64 ((1024 : Int) - ((s.length : Int) - (n2 * (old.length : Int)))))) ∧
 ((((decide ((1024 : Int) < ((s.length : Int) - (n2 * (old.length : Int))))) || ((decide ((0 : Int) < (by_.length : Int))) && (decide ((((1024 : Int) - ((s.length : Int) - (n2 * (old.length : Int)))) / (by_.length : Int)) < n2)))) = true → K ([] : List UInt8) (Er.e 7)) ∧
 (((decide ((1024 : Int) < ((s.length : Int) - (n2 * (old.length : Int))))) || ((decide ((0 : Int) < (by_.length : Int))) && (decide ((((1024 : Int) - ((s.length : Int) - (n2 * (old.length : Int)))) / (by_.length : Int)) < n2)))) = false → ((¬ (old = ([] : List UInt8)) → M_strings_Replace s old by_ n2 (fun (t8 : List UInt8) =>
 K t8 Er.ok)) ∧
 (old = ([] : List UInt8) → Lp2 (fun (i : Int) (b1 : List UInt8) k_1 => ((i ≤ (s.length : Int) → ∃ J2 : (List UInt8) → Prop, (∃ J3 : (List UInt8) → Prop, (((i < n2 → (b1.length + by_.length ≤ 140737488355328) ∧
 J3 (b1 ++ by_)) ∧
 (¬ (i < n2) → J3 b1))) ∧
 (∀ b13 : List UInt8, J3 b13 → ((i < (s.length : Int) → (0 ≤ i ∧ i < s.length) ∧
 (b13.length + ([s.getD i.toNat 0] : List UInt8).length ≤ 140737488355328) ∧
 J2 (b13 ++ [s.getD i.toNat 0])) ∧
 (¬ (i < (s.length : Int)) → J2 b13)))) ∧
 (∀ b12 : List UInt8, J2 b12 → (In .i64 (i + (1 : Int))) ∧
 k_1 (i + (1 : Int)) b12)) ∧
 (¬ (i ≤ (s.length : Int)) → K b1 Er.ok))) (0 : Int) []))))))

def M_str_bound (n : Int) (i : Int) (K : Int → Prop) : Prop :=
 ∃ J1 : Int → Prop, (((i < (0 : Int) → (In .i64 (i + n)) ∧
 J1 (i + n)) ∧
 (¬ (i < (0 : Int)) → J1 i))) ∧
 (∀ i2 : Int, J1 i2 → K (if n < (if i2 < (0 : Int) then (0 : Int) else i2) then n else (if i2 < (0 : Int) then (0 : Int) else i2)))

def M_str_Cut (n : Int) (from_ : Int) (to_ : Int) (has : Bool) (until_ : Bool) (K : Int → Int → Prop) : Prop :=
 ∃ J1 : Int → Prop, ((((!has) = true → J1 (0 : Int)) ∧
 ((!has) = false → J1 from_))) ∧
 (∀ from_2 : Int, J1 from_2 → ∃ J2 : Int → Prop, ((((!until_) = true → J2 (if n < (0 : Int) then (0 : Int) else n)) ∧
 ((!until_) = false → J2 to_))) ∧
 (∀ to_2 : Int, J2 to_2 → M_str_bound (if n < (0 : Int) then (0 : Int) else n) from_2 (fun (from_3 : Int) =>
 M_str_bound (if n < (0 : Int) then (0 : Int) else n) to_2 (fun (to_3 : Int) =>
 K from_3 (if from_3 < to_3 then to_3 else from_3)))))

def M_str_Repeat (s : List UInt8) (n : Int) (K : (List UInt8) → Er → Prop) : Prop :=
 ((((decide (n < (1 : Int))) || (decide (s = ([] : List UInt8)))) = true → K ([] : List UInt8) Er.ok) ∧
 (((decide (n < (1 : Int))) || (decide (s = ([] : List UInt8)))) = false → (0 ≤ (1024 : Int) ∧ 0 < (s.length : Int) ∧ In .i64 (1024 : Int)) ∧
 ((((1024 : Int) / (s.length : Int)) < n → K ([] : List UInt8) (Er.e 7)) ∧
 (¬ (((1024 : Int) / (s.length : Int)) < n) → M_strings_Repeat s n (fun (t4 : List UInt8) =>
 K t4 Er.ok)))))

set_option maxHeartbeats 8000000 in
theorem W_str_Split {S : List Nat} {w : World} {s : List UInt8} {by_ : List UInt8} {most : Int} {K : (List (List UInt8)) → Er → Prop} (hG : GOK S w) (hS3 : 3 ∈ S) (hS7 : 7 ∈ S) (hS100 : 100 ∈ S) (H : M_str_Split s by_ most K) : Fn Tryd.prog 27 ⟨[vs s, vs by_, .int .i64 most]⟩ w (fun v w' => w.grownBy w' none ∧ ∃ (r0 : List (List UInt8)), ∃ (A_r0 : Option Addr), ∃ (c_r0 : Nat), ∃ (v_r1 : Value), ∃ (r1 : Er), v = .tuple #[.slice A_r0 r0.length c_r0, v_r1] ∧ Own vs w' w.heap.size 9 A_r0 c_r0 r0 ∧ ErrR S w' v_r1 r1 ∧ K r0 r1) := by
  unfold M_str_Split at H
  refine Fn.enter (by kernel_rfl) Tryd.func27 rfl Tryd.ntmps27 rfl ?_
  refine WC.seq ?_
  refine WC.region ?_
  refine WL.y rfl (Yld.pure tab_ok rfl) ?_
  refine WL.y rfl (Yld.pure tab_ok rfl) ?_
  refine WL.nil (WX.then_normal ?_)
  refine WC.seq ?_
  refine WC.seq ?_
  refine WC.region ?_
  refine WL.y rfl (Yld.pure tab_ok rfl) ?_
  refine WL.y rfl (Yld.pure tab_ok rfl) ?_
  refine WL.nil (WX.then_normal ?_)
  refine WC.cond rfl (fun b1 => ?_) (fun b1 => ?_)
  · replace H := H.1 (of_decide_eq_true b1)
    refine WC.seq ?_
    refine WC.quiet mixed (by kernel_rfl) ?_
    obtain ⟨vE1, _, hE1⟩ := GOK.get hG 3 2 hS3 rfl rfl
    refine WQ.y rfl (Yld.cell tab_ok (ErrR.cell hE1 rfl) rfl rfl) ?_
    refine WQ.y rfl (Yld.pure tab_ok rfl) ?_
    refine WQ.y rfl (Yld.pure tab_ok rfl) ?_
    refine WQ.nil (WX.then_normal ?_)
    refine WC.ret (WX.then_ret ?_)
    exact WX.ret2 rfl rfl rfl ⟨(gr_refl _ _), [], none, 0, vE1, (Er.e 3), rfl, (Own.nil vs w w.heap.size 9), hE1, H⟩
  · replace H := H.2 (of_decide_eq_false b1)
    refine WC.skip (WX.then_normal ?_)
    refine WC.seq ?_
    refine WC.region ?_
    refine WL.y rfl (Yld.pure tab_ok rfl) ?_
    refine WL.y rfl (Yld.pure tab_ok rfl) ?_
    refine WL.call rfl rfl (W_strings_Count hG hS100 H) ?_
    rintro _ _ ⟨rfl, n, rfl, H⟩
    refine WL.y rfl (Yld.pure tab_ok rfl) ?_
    refine WL.nil (WX.then_normal ?_)
    refine WC.seq ?_
    obtain ⟨J1, H, hJ1⟩ := H
    refine WC.midF (fun L' w' => ∃ (n2 : Int), L' = [(0, vs s), (1, vs by_), (8, .int .i64 n2)] ∧ J1 n2 ∧ w = w') ?_ (fun hQ => ?_)
    · clear H
      rintro _ _ ⟨n2, rfl, H, rfl⟩
      replace H := hJ1 n2 H
      refine WX.then_normal ?_
      refine WC.seq ?_
      refine WC.seq ?_
      refine WC.region ?_
      refine WL.y rfl (Yld.pure tab_ok rfl) ?_
      refine WL.y rfl (Yld.pure tab_ok rfl) ?_
      refine WL.nil (WX.then_normal ?_)
      refine WC.cond rfl (fun b2 => ?_) (fun b2 => ?_)
      · replace H := H.1 (of_decide_eq_true b2)
        refine WC.seq ?_
        refine WC.quiet mixed (by kernel_rfl) ?_
        obtain ⟨vE2, _, hE2⟩ := GOK.get hG 7 1 hS7 rfl rfl
        refine WQ.y rfl (Yld.cell tab_ok (ErrR.cell hE2 rfl) rfl rfl) ?_
        refine WQ.y rfl (Yld.pure tab_ok rfl) ?_
        refine WQ.y rfl (Yld.pure tab_ok rfl) ?_
        refine WQ.nil (WX.then_normal ?_)
        refine WC.ret (WX.then_ret ?_)
        exact WX.ret2 rfl rfl rfl ⟨(gr_refl _ _), [], none, 0, vE2, (Er.e 7), rfl, (Own.nil vs w w.heap.size 9), hE2, H⟩
      · replace H := H.2 (of_decide_eq_false b2)
        refine WC.skip (WX.then_normal ?_)
        refine WC.seq ?_
        refine WC.region ?_
        refine WL.y rfl (Yld.pure tab_ok rfl) ?_
        refine WL.y rfl (Yld.pure tab_ok rfl) ?_
        refine WL.y rfl (Yld.pure tab_ok rfl) ?_
        obtain ⟨h1, H⟩ := H
        refine WL.y rfl (Yld.add rfl rfl h1) ?_
        refine WL.call rfl rfl (W_strings_SplitN hG hS100 H) ?_
        rintro _ w1 ⟨hg1, t6, A_t6, c_t6, rfl, ht6, H⟩
        have hb1 := ht6.ge'
        have k1 := ht6.base (fun g hg => Nat.le_trans (Nat.le_refl _) (hb1 g hg))
        have gr1 := hg1
        refine WL.y rfl (Yld.pure tab_ok rfl) ?_
        refine WL.y rfl (Yld.pure tab_ok rfl) ?_
        refine WL.nil (WX.then_normal ?_)
        refine WC.ret ?_
        exact WX.ret2 rfl rfl rfl ⟨gr1, t6, A_t6, c_t6, .nilIface, Er.ok, rfl, k1, (ErrR.okR (S := S) (w := w1)), H⟩
    · clear hJ1
      refine WC.seq ?_
      refine WC.region ?_
      refine WL.y rfl (Yld.pure tab_ok rfl) ?_
      refine WL.y rfl (Yld.pure tab_ok rfl) ?_
      refine WL.nil (WX.then_normal ?_)
      refine WC.cond rfl (fun b3 => ?_) (fun b3 => ?_)
      · replace H := H.1 (of_decide_eq_true b3)
        refine WC.region ?_
        refine WL.y rfl (Yld.pure tab_ok rfl) ?_
        refine WL.y rfl (Yld.pure tab_ok rfl) ?_
        refine WL.y rfl (Yld.min2 rfl rfl) ?_
        refine WL.y rfl (Yld.pure tab_ok rfl) ?_
        refine WL.nil ?_
        exact WX.weaken (by repeat (first | exact Sub.nil | refine Sub.cons rfl ?_)) (hQ _ _ ⟨(if most < n then most else n), rfl, H, rfl⟩)
      · replace H := H.2 (of_decide_eq_false b3)
        refine WC.skip ?_
        exact WX.weaken (by repeat (first | exact Sub.nil | refine Sub.cons rfl ?_)) (hQ _ _ ⟨n, rfl, H, rfl⟩)

set_option maxHeartbeats 8000000 in
theorem W_str_Join {S : List Nat} {w : World} {by_ : List UInt8} {l : List (List UInt8)} {A_l : Option Addr} {c_l : Nat} {n_l : Nat} {K : (List UInt8) → Er → Prop} (hG : GOK S w) (hS7 : 7 ∈ S) (hl : Rd vs w A_l c_l l) (hn_l : n_l = l.length) (H : M_str_Join by_ l K) : Fn Tryd.prog 25 ⟨[vs by_, .slice A_l n_l c_l]⟩ w (fun v w' => w.grownBy w' none ∧ ∃ (r0 : List UInt8), ∃ (v_r1 : Value), ∃ (r1 : Er), v = .tuple #[vs r0, v_r1] ∧ ErrR S w' v_r1 r1 ∧ K r0 r1) := by
  subst hn_l
  unfold M_str_Join at H
  refine Fn.enter (by kernel_rfl) Tryd.func25 rfl Tryd.ntmps25 rfl ?_
  replace H := H (Nat.le_trans hl.cap hl.max)
  refine WC.seq ?_
  refine WC.region ?_
  refine WL.y rfl (Yld.pure tab_ok rfl) ?_
  refine WL.y rfl (Yld.pure tab_ok rfl) ?_
  refine WL.nil (WX.then_normal ?_)
  refine WC.seq ?_
  refine WC.region ?_
  refine WL.y rfl (Yld.pure tab_ok rfl) ?_
  refine WL.nil (WX.then_normal ?_)
  refine WC.seq ?_
  refine WC.seq ?_
  refine WC.region ?_
  refine WL.y rfl (Yld.pure tab_ok rfl) ?_
  refine WL.y rfl (Yld.pure tab_ok rfl) ?_
  refine WL.y rfl (Yld.pure tab_ok rfl) ?_
  refine WL.nil (WX.then_normal ?_)
  refine WC.block ?_
  obtain ⟨I1, mu1, h0_1, HR1⟩ := H
  refine WC.loopF (fun n' L' w' => ∃ (n : Int), ∃ (t11 : Int), n' = mu1 n t11 ∧ L' = [(0, vs by_), (1, .slice A_l l.length c_l), (6, .int .i64 n), (9, .slice A_l l.length c_l), (10, .int .i64 (l.length : Int)), (11, .int .i64 t11)] ∧ I1 n t11 ∧ w = w') _ _ ⟨(0 : Int), (0 : Int), rfl, rfl, h0_1, rfl⟩ (by repeat (first | exact Sub.nil | refine Sub.cons rfl ?_)) ?_
  clear h0_1
  rintro _ _ _ ⟨n, t11, rfl, rfl, hI1, rfl⟩
  have H := HR1 n t11 hI1
  refine WC.seq ?_
  refine WC.region ?_
  refine WL.y rfl (Yld.pure tab_ok rfl) ?_
  refine WL.nil (WX.then_normal ?_)
  refine WC.seq ?_
  refine WC.cond rfl (fun b1 => ?_) (fun b1 => ?_)
  · replace H := H.1 (of_decide_eq_true b1)
    refine WC.skip (WX.then_normal ?_)
    refine WC.seq ?_
    refine WC.block ?_
    refine WC.seq ?_
    refine WC.region ?_
    refine WL.y rfl (Yld.pure tab_ok rfl) ?_
    obtain ⟨h1, H⟩ := H
    refine WL.y rfl (Yld.iaddrW tab_ok hl rfl rfl rfl rfl h1.1 h1.2) ?_
    refine WL.y rfl (Yld.iload [] tab_ok hl rfl rfl (iltN h1 rfl)) ?_
    refine WL.y rfl (Yld.pure tab_ok rfl) ?_
    refine WL.y rfl (Yld.pure tab_ok rfl) ?_
    refine WL.nil (WX.then_normal ?_)
    refine WC.seq ?_
    obtain ⟨J1, H, hJ1⟩ := H
    refine WC.midF (fun L' w' => ∃ (n2 : Int), L' = [(0, vs by_), (1, .slice A_l l.length c_l), (6, .int .i64 n2), (8, vs (l.getD t11.toNat [])), (9, .slice A_l l.length c_l), (10, .int .i64 (l.length : Int)), (11, .int .i64 t11)] ∧ J1 n2 ∧ w = w') ?_ (fun hQ => ?_)
    · clear H
      rintro _ _ ⟨n2, rfl, H, rfl⟩
      replace H := hJ1 n2 H
      refine WX.then_normal ?_
      refine WC.seq ?_
      refine WC.region ?_
      refine WL.y rfl (Yld.pure tab_ok rfl) ?_
      refine WL.y rfl (Yld.pure tab_ok rfl) ?_
      refine WL.y rfl (Yld.pure tab_ok rfl) ?_
      obtain ⟨h2, H⟩ := H
      refine WL.y rfl (Yld.add rfl rfl h2) ?_
      refine WL.y rfl (Yld.pure tab_ok rfl) ?_
      refine WL.nil (WX.then_normal ?_)
      refine WC.seq ?_
      refine WC.region ?_
      refine WL.y rfl (Yld.pure tab_ok rfl) ?_
      refine WL.y rfl (Yld.pure tab_ok rfl) ?_
      refine WL.nil (WX.then_normal ?_)
      refine WC.cond rfl (fun b2 => ?_) (fun b2 => ?_)
      · replace H := H.1 (of_decide_eq_true b2)
        refine WC.seq ?_
        refine WC.quiet mixed (by kernel_rfl) ?_
        obtain ⟨vE1, _, hE1⟩ := GOK.get hG 7 1 hS7 rfl rfl
        refine WQ.y rfl (Yld.cell tab_ok (ErrR.cell hE1 rfl) rfl rfl) ?_
        refine WQ.y rfl (Yld.pure tab_ok rfl) ?_
        refine WQ.y rfl (Yld.pure tab_ok rfl) ?_
        refine WQ.nil (WX.then_normal ?_)
        refine WC.ret (WX.block_ret (WX.then_ret (WX.then_ret (WX.block_ret (WX.then_ret ?_)))))
        exact WX.ret2 rfl rfl rfl ⟨(gr_refl _ _), ([] : List UInt8), vE1, (Er.e 7), rfl, hE1, H⟩
      · replace H := H.2 (of_decide_eq_false b2)
        refine WC.skip (WX.block_normal (WX.then_normal ?_))
        refine WC.region ?_
        obtain ⟨h3, H⟩ := H
        refine WL.y rfl (Yld.add rfl rfl h3) ?_
        refine WL.y rfl (Yld.pure tab_ok rfl) ?_
        refine WL.nil ?_
        exact WX.roundF _ ⟨n2 + ((l.getD t11.toNat []).length : Int), t11 + (1 : Int), rfl, rfl, H.1, rfl⟩ (by repeat (first | exact Sub.nil | refine Sub.cons rfl ?_)) H.2
    · clear hJ1
      refine WC.seq ?_
      refine WC.region ?_
      refine WL.y rfl (Yld.pure tab_ok rfl) ?_
      refine WL.y rfl (Yld.pure tab_ok rfl) ?_
      refine WL.nil (WX.then_normal ?_)
      refine WC.cond rfl (fun b3 => ?_) (fun b3 => ?_)
      · replace H := H.1 (of_decide_eq_true b3)
        refine WC.region ?_
        refine WL.y rfl (Yld.pure tab_ok rfl) ?_
        refine WL.y rfl (Yld.pure tab_ok rfl) ?_
        refine WL.y rfl (Yld.pure tab_ok rfl) ?_
        obtain ⟨h4, H⟩ := H
        refine WL.y rfl (Yld.add rfl rfl h4) ?_
        refine WL.y rfl (Yld.pure tab_ok rfl) ?_
        refine WL.nil ?_
        exact WX.weaken (by repeat (first | exact Sub.nil | refine Sub.cons rfl ?_)) (hQ _ _ ⟨n + (by_.length : Int), rfl, H, rfl⟩)
      · replace H := H.2 (of_decide_eq_false b3)
        refine WC.skip ?_
        exact WX.weaken (by repeat (first | exact Sub.nil | refine Sub.cons rfl ?_)) (hQ _ _ ⟨n, rfl, H, rfl⟩)
  · replace H := H.2 (of_decide_eq_false b1)
    refine WC.exit (WX.then_exit (WX.then_exit (WX.block_same (WX.then_normal ?_))))
    refine WC.seq ?_
    refine WC.region ?_
    refine WL.y rfl (Yld.pure tab_ok rfl) ?_
    refine WL.y rfl (Yld.pure tab_ok rfl) ?_
    refine WL.call rfl rfl (W_strings_Join hl rfl H) ?_
    rintro _ w1 ⟨hg1, t4, rfl, H⟩
    have gr1 := hg1
    refine WL.y rfl (Yld.pure tab_ok rfl) ?_
    refine WL.y rfl (Yld.pure tab_ok rfl) ?_
    refine WL.nil (WX.then_normal ?_)
    refine WC.ret ?_
    exact WX.ret2 rfl rfl rfl ⟨gr1, t4, .nilIface, Er.ok, rfl, (ErrR.okR (S := S) (w := w1)), H⟩

set_option maxHeartbeats 8000000 in
theorem W_str_Count {S : List Nat} {w : World} {s : List UInt8} {what : List UInt8} {K : Int → Prop} (hG : GOK S w) (hS100 : 100 ∈ S) (H : M_str_Count s what K) : Fn Tryd.prog 28 ⟨[vs s, vs what]⟩ w (fun v w' => w = w' ∧ ∃ (r : Int), v = .int .i64 r ∧ K r) := by
  unfold M_str_Count at H
  refine Fn.enter (by kernel_rfl) Tryd.func28 rfl Tryd.ntmps28 rfl ?_
  refine WC.seq ?_
  refine WC.region ?_
  refine WL.y rfl (Yld.pure tab_ok rfl) ?_
  refine WL.nil (WX.then_normal ?_)
  refine WC.seq ?_
  refine WC.seq ?_
  refine WC.region ?_
  refine WL.y rfl (Yld.pure tab_ok rfl) ?_
  refine WL.y rfl (Yld.pure tab_ok rfl) ?_
  refine WL.nil (WX.then_normal ?_)
  refine WC.cond rfl (fun b1 => ?_) (fun b1 => ?_)
  · replace H := H.1 (of_decide_eq_true b1)
    refine WC.seq ?_
    refine WC.region ?_
    refine WL.y rfl (Yld.pure tab_ok rfl) ?_
    refine WL.y rfl (Yld.pure tab_ok rfl) ?_
    obtain ⟨h1, H⟩ := H
    refine WL.y rfl (Yld.add rfl rfl h1) ?_
    refine WL.y rfl (Yld.pure tab_ok rfl) ?_
    refine WL.nil (WX.then_normal ?_)
    refine WC.ret (WX.then_ret ?_)
    exact WX.ret1 rfl rfl ⟨rfl, (s.length : Int) + (1 : Int), rfl, H⟩
  · replace H := H.2 (of_decide_eq_false b1)
    refine WC.skip (WX.then_normal ?_)
    refine WC.seq ?_
    refine WC.region ?_
    refine WL.y rfl (Yld.pure tab_ok rfl) ?_
    refine WL.y rfl (Yld.pure tab_ok rfl) ?_
    refine WL.call rfl rfl (W_strings_Count hG hS100 H) ?_
    rintro _ _ ⟨rfl, t4, rfl, H⟩
    refine WL.y rfl (Yld.pure tab_ok rfl) ?_
    refine WL.nil (WX.then_normal ?_)
    refine WC.ret ?_
    exact WX.ret1 rfl rfl ⟨rfl, t4, rfl, H⟩

set_option maxHeartbeats 8000000 in
theorem W_str_Replace {S : List Nat} {w : World} {s : List UInt8} {old : List UInt8} {by_ : List UInt8} {most : Int} {K : (List UInt8) → Er → Prop} (hG : GOK S w) (hS7 : 7 ∈ S) (hS100 : 100 ∈ S) (H : M_str_Replace s old by_ most K) : Fn Tryd.prog 29 ⟨[vs s, vs old, vs by_, .int .i64 most]⟩ w (fun v w' => w.grownBy w' none ∧ ∃ (r0 : List UInt8), ∃ (v_r1 : Value), ∃ (r1 : Er), v = .tuple #[vs r0, v_r1] ∧ ErrR S w' v_r1 r1 ∧ K r0 r1) := by
  unfold M_str_Replace at H
  refine Fn.enter (by kernel_rfl) Tryd.func29 rfl Tryd.ntmps29 rfl ?_
  refine WC.seq ?_
  refine WC.region ?_
  refine WL.y rfl (Yld.pure tab_ok rfl) ?_
  refine WL.y rfl (Yld.pure tab_ok rfl) ?_
  refine WL.nil (WX.then_normal ?_)
  refine WC.seq ?_
  refine WC.region ?_
  refine WL.y rfl (Yld.pure tab_ok rfl) ?_
  refine WL.y rfl (Yld.pure tab_ok rfl) ?_
  refine WL.call rfl rfl (W_str_Count hG hS100 H) ?_
  rintro _ _ ⟨rfl, n, rfl, H⟩
  refine WL.y rfl (Yld.pure tab_ok rfl) ?_
  refine WL.nil (WX.then_normal ?_)
  refine WC.seq ?_
  obtain ⟨J1, H, hJ1⟩ := H
  refine WC.midF (fun L' w' => ∃ (n2 : Int), L' = [(0, vs s), (1, vs old), (2, vs by_), (10, .int .i64 n2)] ∧ J1 n2 ∧ w = w') ?_ (fun hQ => ?_)
  · clear H
    rintro _ _ ⟨n2, rfl, H, rfl⟩
    replace H := hJ1 n2 H
    refine WX.then_normal ?_
    refine WC.seq ?_
    refine WC.seq ?_
    refine WC.region ?_
    refine WL.y rfl (Yld.pure tab_ok rfl) ?_
    refine WL.y rfl (Yld.pure tab_ok rfl) ?_
    refine WL.y rfl (Yld.pure tab_ok rfl) ?_
    refine WL.y rfl (Yld.pure tab_ok rfl) ?_
    refine WL.y rfl (Yld.pure tab_ok rfl) ?_
    obtain ⟨h1, H⟩ := H
    refine WL.y rfl (Yld.mul rfl rfl h1) ?_
    obtain ⟨h2, H⟩ := H
    refine WL.y rfl (Yld.sub rfl rfl h2) ?_
    refine WL.y rfl (Yld.pure tab_ok rfl) ?_
    refine WL.y rfl (Yld.pure tab_ok rfl) ?_
    obtain ⟨h3, H⟩ := H
    obtain ⟨h4, H⟩ := H
    obtain ⟨h5, H⟩ := H
    obtain ⟨h6, H⟩ := H
    refine WL.midF 19 (fun L' w' => ∃ q1 : Bool, L' = [(48, .bool q1), (0, vs s), (1, vs old), (2, vs by_), (10, .int .i64 n2)] ∧ q1 = ((decide ((1024 : Int) < ((s.length : Int) - (n2 * (old.length : Int))))) || ((decide ((0 : Int) < (by_.length : Int))) && (decide ((((1024 : Int) - ((s.length : Int) - (n2 * (old.length : Int)))) / (by_.length : Int)) < n2)))) ∧ w = w') ?_ (fun hQ => ?_)
    · rintro _ _ ⟨q1, rfl, rfl, rfl⟩
      refine WL.nil (WX.then_normal ?_)
      refine WC.cond rfl (fun b1 => ?_) (fun b1 => ?_)
      · replace H := H.1 (b1)
        refine WC.seq ?_
        refine WC.quiet mixed (by kernel_rfl) ?_
        obtain ⟨vE1, _, hE1⟩ := GOK.get hG 7 1 hS7 rfl rfl
        refine WQ.y rfl (Yld.cell tab_ok (ErrR.cell hE1 rfl) rfl rfl) ?_
        refine WQ.y rfl (Yld.pure tab_ok rfl) ?_
        refine WQ.y rfl (Yld.pure tab_ok rfl) ?_
        refine WQ.nil (WX.then_normal ?_)
        refine WC.ret (WX.then_ret ?_)
        exact WX.ret2 rfl rfl rfl ⟨(gr_refl _ _), ([] : List UInt8), vE1, (Er.e 7), rfl, hE1, H⟩
      · replace H := H.2 (b1)
        refine WC.skip (WX.then_normal ?_)
        refine WC.seq ?_
        refine WC.seq ?_
        refine WC.region ?_
        refine WL.y rfl (Yld.pure tab_ok rfl) ?_
        refine WL.y rfl (Yld.pure tab_ok rfl) ?_
        refine WL.nil (WX.then_normal ?_)
        refine WC.cond rfl (fun b2 => ?_) (fun b2 => ?_)
        · replace H := H.1 (nd_true b2)
          refine WC.seq ?_
          refine WC.region ?_
          refine WL.y rfl (Yld.pure tab_ok rfl) ?_
          refine WL.y rfl (Yld.pure tab_ok rfl) ?_
          refine WL.y rfl (Yld.pure tab_ok rfl) ?_
          refine WL.y rfl (Yld.pure tab_ok rfl) ?_
          refine WL.call rfl rfl (W_strings_Replace hG hS100 H) ?_
          rintro _ w1 ⟨hg1, t8, rfl, H⟩
          have gr1 := hg1
          refine WL.y rfl (Yld.pure tab_ok rfl) ?_
          refine WL.y rfl (Yld.pure tab_ok rfl) ?_
          refine WL.nil (WX.then_normal ?_)
          refine WC.ret (WX.then_ret ?_)
          exact WX.ret2 rfl rfl rfl ⟨gr1, t8, .nilIface, Er.ok, rfl, (ErrR.okR (S := S) (w := w1)), H⟩
        · replace H := H.2 (nd_false b2)
          refine WC.skip (WX.then_normal ?_)
          refine WC.seq ?_
          refine WC.region ?_
          refine WL.alloc rfl zero84 (fun g1 w2 hB1 hg2 hl1 => ?_)
          have gr2 := hg2
          refine WL.nil (WX.then_normal ?_)
          refine WC.seq ?_
          refine WC.seq ?_
          refine WC.region ?_
          refine WL.y rfl (Yld.pure tab_ok rfl) ?_
          refine WL.nil (WX.then_normal ?_)
          refine WC.block ?_
          obtain ⟨I1, mu1, h0_1, HR1⟩ := H
          refine WC.loopF (fun n' L' w' => ∃ (i : Int), ∃ (a_bld : Option Addr), ∃ (b1 : List UInt8), ∃ (A_b1 : Option Addr), ∃ (c_b1 : Nat), ∃ (n_b1 : Nat), n' = mu1 i b1 ∧ L' = [(0, vs s), (2, vs by_), (10, .int .i64 n2), (11, .pointer (some ⟨g1, 0, none⟩)), (12, .int .i64 i)] ∧ I1 i b1 ∧ (a_bld = none ∨ a_bld = some ⟨g1, 0, none⟩) ∧ n_b1 = b1.length ∧ w.grownBy w' none ∧ Bl w' g1 84 [.pointer a_bld, .slice A_b1 n_b1 c_b1] ∧ Own vb w' w.heap.size 5 A_b1 c_b1 b1 ∧ Dj (some g1) (blk A_b1)) _ _ ⟨(0 : Int), none, [], none, 0, 0, rfl, rfl, h0_1, (Or.inl rfl), rfl, gr2, hB1, (Own.nil vb w2 w.heap.size 5), Dj.nr⟩ (by repeat (first | exact Sub.nil | refine Sub.cons rfl ?_)) ?_
          clear h0_1
          rintro _ _ w3 ⟨i, a_bld, b1, A_b1, c_b1, n_b1, rfl, rfl, hI1, ha_bld, rfl, gr3, k1, k2, dj1⟩
          have H := HR1 i b1 hI1
          refine WC.seq ?_
          refine WC.seq ?_
          refine WC.region ?_
          refine WL.y rfl (Yld.pure tab_ok rfl) ?_
          refine WL.y rfl (Yld.pure tab_ok rfl) ?_
          refine WL.y rfl (Yld.pure tab_ok rfl) ?_
          refine WL.y rfl (Yld.pure tab_ok rfl) ?_
          refine WL.nil (WX.then_normal ?_)
          refine WC.cond rfl (fun b3 => ?_) (fun b3 => ?_)
          · replace H := H.1 (of_decide_eq_true b3)
            refine WC.skip (WX.then_normal ?_)
            refine WC.seq ?_
            obtain ⟨J2, H, hJ2⟩ := H
            refine WC.midF (fun L' w' => ∃ (a_bld2 : Option Addr), ∃ (b12 : List UInt8), ∃ (A_b12 : Option Addr), ∃ (c_b12 : Nat), ∃ (n_b12 : Nat), L' = [(0, vs s), (2, vs by_), (10, .int .i64 n2), (11, .pointer (some ⟨g1, 0, none⟩)), (12, .int .i64 i)] ∧ J2 b12 ∧ (a_bld2 = none ∨ a_bld2 = some ⟨g1, 0, none⟩) ∧ n_b12 = b12.length ∧ w.grownBy w' none ∧ Bl w' g1 84 [.pointer a_bld2, .slice A_b12 n_b12 c_b12] ∧ Own vb w' w.heap.size 5 A_b12 c_b12 b12 ∧ Dj (some g1) (blk A_b12)) ?_ (fun hQ => ?_)
            · clear H
              rintro _ w4 ⟨a_bld2, b12, A_b12, c_b12, n_b12, rfl, H, ha_bld2, rfl, gr4, k3, k4, dj2⟩
              replace H := hJ2 b12 H
              refine WX.then_normal ?_
              refine WC.region ?_
              refine WL.y rfl (Yld.pure tab_ok rfl) ?_
              obtain ⟨h7, H⟩ := H
              refine WL.y rfl (Yld.add rfl rfl h7) ?_
              refine WL.y rfl (Yld.pure tab_ok rfl) ?_
              refine WL.nil ?_
              exact WX.roundF _ ⟨i + (1 : Int), a_bld2, b12, A_b12, c_b12, b12.length, rfl, rfl, H.1, ha_bld2, rfl, gr4, k3, k4, dj2⟩ (by repeat (first | exact Sub.nil | refine Sub.cons rfl ?_)) H.2
            · clear hJ2
              refine WC.block ?_
              refine WC.seq ?_
              obtain ⟨J3, H, hJ3⟩ := H
              refine WC.midF (fun L' w' => ∃ (a_bld3 : Option Addr), ∃ (b13 : List UInt8), ∃ (A_b13 : Option Addr), ∃ (c_b13 : Nat), ∃ (n_b13 : Nat), L' = [(0, vs s), (2, vs by_), (10, .int .i64 n2), (11, .pointer (some ⟨g1, 0, none⟩)), (12, .int .i64 i)] ∧ J3 b13 ∧ (a_bld3 = none ∨ a_bld3 = some ⟨g1, 0, none⟩) ∧ n_b13 = b13.length ∧ w.grownBy w' none ∧ Bl w' g1 84 [.pointer a_bld3, .slice A_b13 n_b13 c_b13] ∧ Own vb w' w.heap.size 5 A_b13 c_b13 b13 ∧ Dj (some g1) (blk A_b13)) ?_ (fun hQ => ?_)
              · clear H
                rintro _ w5 ⟨a_bld3, b13, A_b13, c_b13, n_b13, rfl, H, ha_bld3, rfl, gr5, k5, k6, dj3⟩
                replace H := hJ3 b13 H
                refine WX.then_normal ?_
                refine WC.seq ?_
                refine WC.region ?_
                refine WL.y rfl (Yld.pure tab_ok rfl) ?_
                refine WL.y rfl (Yld.pure tab_ok rfl) ?_
                refine WL.y rfl (Yld.pure tab_ok rfl) ?_
                refine WL.y rfl (Yld.pure tab_ok rfl) ?_
                refine WL.nil (WX.then_normal ?_)
                refine WC.cond rfl (fun b4 => ?_) (fun b4 => ?_)
                · replace H := H.1 (of_decide_eq_true b4)
                  refine WC.region ?_
                  refine WL.y rfl (Yld.pure tab_ok rfl) ?_
                  refine WL.y rfl (Yld.pure tab_ok rfl) ?_
                  obtain ⟨h8, H⟩ := H
                  refine WL.y rfl (Yld.sidx tab_ok rfl rfl rfl h8.1 h8.2) ?_
                  obtain ⟨h9, H⟩ := H
                  refine WL.call rfl rfl (bwb_fn k5 ha_bld3 rfl rfl rfl (liesB_of (by kernel_rfl)) k6 dj3 h9 (size_le gr5)) ?_
                  rintro _ w6 ⟨rfl, A_buf, c_buf, hB2, hO1, hgl1, hi1, dj4⟩
                  have hB3 : Bl w6 g1 84 [.pointer (some ⟨g1, 0, none⟩), .slice A_buf ((b13 ++ [s.getD i.toNat 0]).length) c_buf] := hB2
                  have gr6 := gr_modL gr5 hgl1 (apC (Ge.le (Ge.box hl1) (Nat.le_refl _)) (apC k6.ge' apN))
                  refine WL.nil (WX.block_normal ?_)
                  exact WX.weaken (by repeat (first | exact Sub.nil | refine Sub.cons rfl ?_)) (hQ _ _ ⟨(some ⟨g1, 0, none⟩), b13 ++ [s.getD i.toNat 0], A_buf, c_buf, (b13 ++ [s.getD i.toNat 0]).length, rfl, H, (Or.inr rfl), rfl, gr6, hB3, hO1, dj4⟩)
                · replace H := H.2 (of_decide_eq_false b4)
                  refine WC.skip (WX.block_normal ?_)
                  exact WX.weaken (by repeat (first | exact Sub.nil | refine Sub.cons rfl ?_)) (hQ _ _ ⟨a_bld3, b13, A_b13, c_b13, b13.length, rfl, H, ha_bld3, rfl, gr5, k5, k6, dj3⟩)
              · clear hJ3
                refine WC.seq ?_
                refine WC.region ?_
                refine WL.y rfl (Yld.pure tab_ok rfl) ?_
                refine WL.y rfl (Yld.pure tab_ok rfl) ?_
                refine WL.y rfl (Yld.pure tab_ok rfl) ?_
                refine WL.nil (WX.then_normal ?_)
                refine WC.cond rfl (fun b5 => ?_) (fun b5 => ?_)
                · replace H := H.1 (of_decide_eq_true b5)
                  refine WC.region ?_
                  refine WL.y rfl (Yld.pure tab_ok rfl) ?_
                  obtain ⟨h10, H⟩ := H
                  refine WL.call rfl rfl (bws_fn k1 ha_bld rfl rfl rfl (liesB_of (by kernel_rfl)) k2 dj1 h10 (size_le gr3)) ?_
                  rintro _ w7 ⟨rfl, A_buf2, c_buf2, hB4, hO2, hgl2, hi2, dj5⟩
                  have hB5 : Bl w7 g1 84 [.pointer (some ⟨g1, 0, none⟩), .slice A_buf2 ((b1 ++ by_).length) c_buf2] := hB4
                  have gr7 := gr_modL gr3 hgl2 (apC (Ge.le (Ge.box hl1) (Nat.le_refl _)) (apC k2.ge' apN))
                  refine WL.nil ?_
                  exact WX.weaken (by repeat (first | exact Sub.nil | refine Sub.cons rfl ?_)) (hQ _ _ ⟨(some ⟨g1, 0, none⟩), b1 ++ by_, A_buf2, c_buf2, (b1 ++ by_).length, rfl, H, (Or.inr rfl), rfl, gr7, hB5, hO2, dj5⟩)
                · replace H := H.2 (of_decide_eq_false b5)
                  refine WC.skip ?_
                  exact WX.weaken (by repeat (first | exact Sub.nil | refine Sub.cons rfl ?_)) (hQ _ _ ⟨a_bld, b1, A_b1, c_b1, b1.length, rfl, H, ha_bld, rfl, gr3, k1, k2, dj1⟩)
          · replace H := H.2 (of_decide_eq_false b3)
            refine WC.exit (WX.then_exit (WX.then_exit (WX.block_same (WX.then_normal ?_))))
            refine WC.seq ?_
            refine WC.region ?_
            refine WL.call rfl rfl (bstr_fn k1 rfl rfl k2 dj1) ?_
            rintro _ w8 ⟨rfl, hB6, hgl3⟩
            have gr8 := gr_modL gr3 hgl3 (apC k2.ge' apN)
            refine WL.y rfl (Yld.pure tab_ok rfl) ?_
            refine WL.y rfl (Yld.pure tab_ok rfl) ?_
            refine WL.nil (WX.then_normal ?_)
            refine WC.ret ?_
            exact WX.ret2 rfl rfl rfl ⟨gr8, b1, .nilIface, Er.ok, rfl, (ErrR.okR (S := S) (w := w8)), H⟩
    · clear H
      rcases Bool.eq_false_or_eq_true (decide ((1024 : Int) < ((s.length : Int) - (n2 * (old.length : Int))))) with b6 | b6
      · refine WL.gno rfl rfl (okb b6) rfl ?_
        refine WL.gno rfl rfl (okb b6) rfl ?_
        refine WL.gno rfl rfl (okb b6) rfl ?_
        refine WL.gno rfl rfl (okb b6) rfl ?_
        refine WL.gun rfl rfl rfl rfl ?_
        refine WL.gun rfl rfl rfl rfl ?_
        refine WL.gun rfl rfl rfl rfl ?_
        refine WL.gun rfl rfl rfl rfl ?_
        refine WL.gun rfl rfl rfl rfl ?_
        refine WL.gun rfl rfl rfl rfl ?_
        refine WL.gun rfl rfl rfl rfl ?_
        refine WL.gun rfl rfl rfl rfl ?_
        refine WL.gun rfl rfl rfl rfl ?_
        refine WL.gun rfl rfl rfl rfl ?_
        refine WL.gun rfl rfl rfl rfl ?_
        refine WL.gun rfl rfl rfl rfl ?_
        refine WL.gun rfl rfl rfl rfl ?_
        refine WL.gno rfl rfl (okb b6) rfl ?_
        refine WL.y rfl (Yld.pickT (okb b6) rfl) ?_
        exact WL.weaken (by repeat (first | exact Sub.nil | refine Sub.cons rfl ?_)) (hQ _ _ ⟨true, rfl, by rw [b6] <;> rfl, rfl⟩)
      · refine WL.gyes rfl rfl (okb b6) rfl (Yld.pure tab_ok rfl) ?_
        refine WL.gyes rfl rfl (okb b6) rfl (Yld.pure tab_ok rfl) ?_
        refine WL.gyes rfl rfl (okb b6) rfl (Yld.pure tab_ok rfl) ?_
        refine WL.gyes rfl rfl (okb b6) rfl (Yld.pure tab_ok rfl) ?_
        rcases Bool.eq_false_or_eq_true (decide ((0 : Int) < (by_.length : Int))) with b7 | b7
        · refine WL.gyes rfl rfl (okb b7) rfl (Yld.pure tab_ok rfl) ?_
          refine WL.gyes rfl rfl (okb b7) rfl (Yld.pure tab_ok rfl) ?_
          refine WL.gyes rfl rfl (okb b7) rfl (Yld.pure tab_ok rfl) ?_
          refine WL.gyes rfl rfl (okb b7) rfl (Yld.pure tab_ok rfl) ?_
          refine WL.gyes rfl rfl (okb b7) rfl (Yld.pure tab_ok rfl) ?_
          refine WL.gyes rfl rfl (okb b7) rfl (Yld.pure tab_ok rfl) ?_
          refine WL.gyes rfl rfl (okb b7) rfl (Yld.mul rfl rfl (h3 b6 b7)) ?_
          refine WL.gyes rfl rfl (okb b7) rfl (Yld.sub rfl rfl (h4 b6 b7)) ?_
          refine WL.gyes rfl rfl (okb b7) rfl (Yld.sub rfl rfl (h5 b6 b7)) ?_
          refine WL.gyes rfl rfl (okb b7) rfl (Yld.pure tab_ok rfl) ?_
          refine WL.gyes rfl rfl (okb b7) rfl (Yld.pure tab_ok rfl) ?_
          refine WL.gyes rfl rfl (okb b7) rfl (Yld.quo rfl rfl (h6 b6 b7).1 (h6 b6 b7).2.1 (h6 b6 b7).2.2) ?_
          refine WL.gyes rfl rfl (okb b7) rfl (Yld.pure tab_ok rfl) ?_
          refine WL.gyes rfl rfl (okb b6) rfl (Yld.pickT (okb b7) rfl) ?_
          refine WL.y rfl (Yld.pickF (okb b6) rfl) ?_
          exact WL.weaken (by repeat (first | exact Sub.nil | refine Sub.cons rfl ?_)) (hQ _ _ ⟨decide ((((1024 : Int) - ((s.length : Int) - (n2 * (old.length : Int)))) / (by_.length : Int)) < n2), rfl, by rw [b6, b7] <;> rfl, rfl⟩)
        · refine WL.gno rfl rfl (okb b7) rfl ?_
          refine WL.gno rfl rfl (okb b7) rfl ?_
          refine WL.gno rfl rfl (okb b7) rfl ?_
          refine WL.gno rfl rfl (okb b7) rfl ?_
          refine WL.gno rfl rfl (okb b7) rfl ?_
          refine WL.gno rfl rfl (okb b7) rfl ?_
          refine WL.gno rfl rfl (okb b7) rfl ?_
          refine WL.gno rfl rfl (okb b7) rfl ?_
          refine WL.gno rfl rfl (okb b7) rfl ?_
          refine WL.gno rfl rfl (okb b7) rfl ?_
          refine WL.gno rfl rfl (okb b7) rfl ?_
          refine WL.gno rfl rfl (okb b7) rfl ?_
          refine WL.gno rfl rfl (okb b7) rfl ?_
          refine WL.gyes rfl rfl (okb b6) rfl (Yld.pickF (okb b7) rfl) ?_
          refine WL.y rfl (Yld.pickF (okb b6) rfl) ?_
          exact WL.weaken (by repeat (first | exact Sub.nil | refine Sub.cons rfl ?_)) (hQ _ _ ⟨false, rfl, by rw [b6, b7] <;> rfl, rfl⟩)
  · clear hJ1
    refine WC.seq ?_
    refine WC.region ?_
    refine WL.y rfl (Yld.pure tab_ok rfl) ?_
    refine WL.y rfl (Yld.pure tab_ok rfl) ?_
    refine WL.nil (WX.then_normal ?_)
    refine WC.cond rfl (fun b8 => ?_) (fun b8 => ?_)
    · replace H := H.1 (of_decide_eq_true b8)
      refine WC.region ?_
      refine WL.y rfl (Yld.pure tab_ok rfl) ?_
      refine WL.y rfl (Yld.pure tab_ok rfl) ?_
      refine WL.y rfl (Yld.min2 rfl rfl) ?_
      refine WL.y rfl (Yld.pure tab_ok rfl) ?_
      refine WL.nil ?_
      exact WX.weaken (by repeat (first | exact Sub.nil | refine Sub.cons rfl ?_)) (hQ _ _ ⟨(if most < n then most else n), rfl, H, rfl⟩)
    · replace H := H.2 (of_decide_eq_false b8)
      refine WC.skip ?_
      exact WX.weaken (by repeat (first | exact Sub.nil | refine Sub.cons rfl ?_)) (hQ _ _ ⟨n, rfl, H, rfl⟩)

set_option maxHeartbeats 8000000 in
theorem W_str_bound {w : World} {n : Int} {i : Int} {K : Int → Prop} (H : M_str_bound n i K) : Fn Tryd.prog 53 ⟨[.int .i64 n, .int .i64 i]⟩ w (fun v w' => w = w' ∧ ∃ (r : Int), v = .int .i64 r ∧ K r) := by
  unfold M_str_bound at H
  refine Fn.enter (by kernel_rfl) Tryd.func53 rfl Tryd.ntmps53 rfl ?_
  refine WC.seq ?_
  refine WC.region ?_
  refine WL.y rfl (Yld.pure tab_ok rfl) ?_
  refine WL.nil (WX.then_normal ?_)
  refine WC.seq ?_
  obtain ⟨J1, H, hJ1⟩ := H
  refine WC.midF (fun L' w' => ∃ (i2 : Int), L' = [(0, .int .i64 n), (1, .int .i64 i2)] ∧ J1 i2 ∧ w = w') ?_ (fun hQ => ?_)
  · clear H
    rintro _ _ ⟨i2, rfl, H, rfl⟩
    replace H := hJ1 i2 H
    refine WX.then_normal ?_
    refine WC.seq ?_
    refine WC.region ?_
    refine WL.y rfl (Yld.pure tab_ok rfl) ?_
    refine WL.y rfl (Yld.max2 rfl rfl) ?_
    refine WL.y rfl (Yld.pure tab_ok rfl) ?_
    refine WL.y rfl (Yld.min2 rfl rfl) ?_
    refine WL.y rfl (Yld.pure tab_ok rfl) ?_
    refine WL.nil (WX.then_normal ?_)
    refine WC.ret ?_
    exact WX.ret1 rfl rfl ⟨rfl, (if n < (if i2 < (0 : Int) then (0 : Int) else i2) then n else (if i2 < (0 : Int) then (0 : Int) else i2)), rfl, H⟩
  · clear hJ1
    refine WC.seq ?_
    refine WC.region ?_
    refine WL.y rfl (Yld.pure tab_ok rfl) ?_
    refine WL.y rfl (Yld.pure tab_ok rfl) ?_
    refine WL.nil (WX.then_normal ?_)
    refine WC.cond rfl (fun b1 => ?_) (fun b1 => ?_)
    · replace H := H.1 (of_decide_eq_true b1)
      refine WC.region ?_
      refine WL.y rfl (Yld.pure tab_ok rfl) ?_
      refine WL.y rfl (Yld.pure tab_ok rfl) ?_
      obtain ⟨h1, H⟩ := H
      refine WL.y rfl (Yld.add rfl rfl h1) ?_
      refine WL.y rfl (Yld.pure tab_ok rfl) ?_
      refine WL.nil ?_
      exact WX.weaken (by repeat (first | exact Sub.nil | refine Sub.cons rfl ?_)) (hQ _ _ ⟨i + n, rfl, H, rfl⟩)
    · replace H := H.2 (of_decide_eq_false b1)
      refine WC.skip ?_
      exact WX.weaken (by repeat (first | exact Sub.nil | refine Sub.cons rfl ?_)) (hQ _ _ ⟨i, rfl, H, rfl⟩)

set_option maxHeartbeats 8000000 in
theorem W_str_Cut {w : World} {n : Int} {from_ : Int} {to_ : Int} {has : Bool} {until_ : Bool} {K : Int → Int → Prop} (H : M_str_Cut n from_ to_ has until_ K) : Fn Tryd.prog 18 ⟨[.int .i64 n, .int .i64 from_, .int .i64 to_, .bool has, .bool until_]⟩ w (fun v w' => w = w' ∧ ∃ (r0 : Int), ∃ (r1 : Int), v = .tuple #[.int .i64 r0, .int .i64 r1] ∧ K r0 r1) := by
  unfold M_str_Cut at H
  refine Fn.enter (by kernel_rfl) Tryd.func18 rfl Tryd.ntmps18 rfl ?_
  refine WC.seq ?_
  refine WC.region ?_
  refine WL.y rfl (Yld.pure tab_ok rfl) ?_
  refine WL.y rfl (Yld.pure tab_ok rfl) ?_
  refine WL.nil (WX.then_normal ?_)
  refine WC.seq ?_
  refine WC.region ?_
  refine WL.y rfl (Yld.pure tab_ok rfl) ?_
  refine WL.y rfl (Yld.max2 rfl rfl) ?_
  refine WL.y rfl (Yld.pure tab_ok rfl) ?_
  refine WL.nil (WX.then_normal ?_)
  refine WC.seq ?_
  obtain ⟨J1, H, hJ1⟩ := H
  refine WC.midF (fun L' w' => ∃ (from_2 : Int), L' = [(0, .int .i64 (if n < (0 : Int) then (0 : Int) else n)), (1, .int .i64 from_2), (2, .int .i64 to_), (4, .bool until_)] ∧ J1 from_2 ∧ w = w') ?_ (fun hQ => ?_)
  · clear H
    rintro _ _ ⟨from_2, rfl, H, rfl⟩
    replace H := hJ1 from_2 H
    refine WX.then_normal ?_
    refine WC.seq ?_
    obtain ⟨J2, H, hJ2⟩ := H
    refine WC.midF (fun L' w' => ∃ (to_2 : Int), L' = [(0, .int .i64 (if n < (0 : Int) then (0 : Int) else n)), (1, .int .i64 from_2), (2, .int .i64 to_2)] ∧ J2 to_2 ∧ w = w') ?_ (fun hQ => ?_)
    · clear H
      rintro _ _ ⟨to_2, rfl, H, rfl⟩
      replace H := hJ2 to_2 H
      refine WX.then_normal ?_
      refine WC.seq ?_
      refine WC.region ?_
      refine WL.y rfl (Yld.pure tab_ok rfl) ?_
      refine WL.y rfl (Yld.pure tab_ok rfl) ?_
      refine WL.call rfl rfl (W_str_bound H) ?_
      rintro _ _ ⟨rfl, from_3, rfl, H⟩
      refine WL.y rfl (Yld.pure tab_ok rfl) ?_
      refine WL.y rfl (Yld.pure tab_ok rfl) ?_
      refine WL.call rfl rfl (W_str_bound H) ?_
      rintro _ _ ⟨rfl, to_3, rfl, H⟩
      refine WL.y rfl (Yld.pure tab_ok rfl) ?_
      refine WL.y rfl (Yld.pure tab_ok rfl) ?_
      refine WL.nil (WX.then_normal ?_)
      refine WC.seq ?_
      refine WC.region ?_
      refine WL.y rfl (Yld.pure tab_ok rfl) ?_
      refine WL.y rfl (Yld.pure tab_ok rfl) ?_
      refine WL.y rfl (Yld.pure tab_ok rfl) ?_
      refine WL.y rfl (Yld.max2 rfl rfl) ?_
      refine WL.y rfl (Yld.pure tab_ok rfl) ?_
      refine WL.y rfl (Yld.pure tab_ok rfl) ?_
      refine WL.nil (WX.then_normal ?_)
      refine WC.ret ?_
      exact WX.ret2 rfl rfl rfl ⟨rfl, from_3, (if from_3 < to_3 then to_3 else from_3), rfl, H⟩
    · clear hJ2
      refine WC.seq ?_
      refine WC.region ?_
      refine WL.y rfl (Yld.pure tab_ok rfl) ?_
      refine WL.y rfl (Yld.pure tab_ok rfl) ?_
      refine WL.nil (WX.then_normal ?_)
      refine WC.cond rfl (fun b1 => ?_) (fun b1 => ?_)
      · replace H := H.1 (b1)
        refine WC.region ?_
        refine WL.y rfl (Yld.pure tab_ok rfl) ?_
        refine WL.y rfl (Yld.pure tab_ok rfl) ?_
        refine WL.nil ?_
        exact WX.weaken (by repeat (first | exact Sub.nil | refine Sub.cons rfl ?_)) (hQ _ _ ⟨(if n < (0 : Int) then (0 : Int) else n), rfl, H, rfl⟩)
      · replace H := H.2 (b1)
        refine WC.skip ?_
        exact WX.weaken (by repeat (first | exact Sub.nil | refine Sub.cons rfl ?_)) (hQ _ _ ⟨to_, rfl, H, rfl⟩)
  · clear hJ1
    refine WC.seq ?_
    refine WC.region ?_
    refine WL.y rfl (Yld.pure tab_ok rfl) ?_
    refine WL.y rfl (Yld.pure tab_ok rfl) ?_
    refine WL.nil (WX.then_normal ?_)
    refine WC.cond rfl (fun b2 => ?_) (fun b2 => ?_)
    · replace H := H.1 (b2)
      refine WC.region ?_
      refine WL.y rfl (Yld.pure tab_ok rfl) ?_
      refine WL.nil ?_
      exact WX.weaken (by repeat (first | exact Sub.nil | refine Sub.cons rfl ?_)) (hQ _ _ ⟨(0 : Int), rfl, H, rfl⟩)
    · replace H := H.2 (b2)
      refine WC.skip ?_
      exact WX.weaken (by repeat (first | exact Sub.nil | refine Sub.cons rfl ?_)) (hQ _ _ ⟨from_, rfl, H, rfl⟩)

set_option maxHeartbeats 8000000 in
theorem W_str_Repeat {S : List Nat} {w : World} {s : List UInt8} {n : Int} {K : (List UInt8) → Er → Prop} (hG : GOK S w) (hS7 : 7 ∈ S) (H : M_str_Repeat s n K) : Fn Tryd.prog 30 ⟨[vs s, .int .i64 n]⟩ w (fun v w' => w.grownBy w' none ∧ ∃ (r0 : List UInt8), ∃ (v_r1 : Value), ∃ (r1 : Er), v = .tuple #[vs r0, v_r1] ∧ ErrR S w' v_r1 r1 ∧ K r0 r1) := by
  unfold M_str_Repeat at H
  refine Fn.enter (by kernel_rfl) Tryd.func30 rfl Tryd.ntmps30 rfl ?_
  refine WC.seq ?_
  refine WC.region ?_
  refine WL.y rfl (Yld.pure tab_ok rfl) ?_
  refine WL.y rfl (Yld.pure tab_ok rfl) ?_
  refine WL.nil (WX.then_normal ?_)
  refine WC.seq ?_
  refine WC.seq ?_
  refine WC.region ?_
  refine WL.y rfl (Yld.pure tab_ok rfl) ?_
  refine WL.y rfl (Yld.pure tab_ok rfl) ?_
  refine WL.y rfl (Yld.pure tab_ok rfl) ?_
  refine WL.midF 3 (fun L' w' => ∃ q1 : Bool, L' = [(11, .bool q1), (0, vs s), (1, .int .i64 n)] ∧ q1 = ((decide (n < (1 : Int))) || (decide (s = ([] : List UInt8)))) ∧ w = w') ?_ (fun hQ => ?_)
  · rintro _ _ ⟨q1, rfl, rfl, rfl⟩
    refine WL.nil (WX.then_normal ?_)
    refine WC.cond rfl (fun b1 => ?_) (fun b1 => ?_)
    · replace H := H.1 (b1)
      refine WC.seq ?_
      refine WC.region ?_
      refine WL.y rfl (Yld.pure tab_ok rfl) ?_
      refine WL.y rfl (Yld.pure tab_ok rfl) ?_
      refine WL.nil (WX.then_normal ?_)
      refine WC.ret (WX.then_ret ?_)
      exact WX.ret2 rfl rfl rfl ⟨(gr_refl _ _), ([] : List UInt8), .nilIface, Er.ok, rfl, (ErrR.okR (S := S) (w := w)), H⟩
    · replace H := H.2 (b1)
      refine WC.skip (WX.then_normal ?_)
      refine WC.seq ?_
      refine WC.seq ?_
      refine WC.region ?_
      refine WL.y rfl (Yld.pure tab_ok rfl) ?_
      refine WL.y rfl (Yld.pure tab_ok rfl) ?_
      refine WL.y rfl (Yld.pure tab_ok rfl) ?_
      obtain ⟨h1, H⟩ := H
      refine WL.y rfl (Yld.quo rfl rfl h1.1 h1.2.1 h1.2.2) ?_
      refine WL.y rfl (Yld.pure tab_ok rfl) ?_
      refine WL.nil (WX.then_normal ?_)
      refine WC.cond rfl (fun b2 => ?_) (fun b2 => ?_)
      · replace H := H.1 (of_decide_eq_true b2)
        refine WC.seq ?_
        refine WC.quiet mixed (by kernel_rfl) ?_
        obtain ⟨vE1, _, hE1⟩ := GOK.get hG 7 1 hS7 rfl rfl
        refine WQ.y rfl (Yld.cell tab_ok (ErrR.cell hE1 rfl) rfl rfl) ?_
        refine WQ.y rfl (Yld.pure tab_ok rfl) ?_
        refine WQ.y rfl (Yld.pure tab_ok rfl) ?_
        refine WQ.nil (WX.then_normal ?_)
        refine WC.ret (WX.then_ret ?_)
        exact WX.ret2 rfl rfl rfl ⟨(gr_refl _ _), ([] : List UInt8), vE1, (Er.e 7), rfl, hE1, H⟩
      · replace H := H.2 (of_decide_eq_false b2)
        refine WC.skip (WX.then_normal ?_)
        refine WC.seq ?_
        refine WC.region ?_
        refine WL.y rfl (Yld.pure tab_ok rfl) ?_
        refine WL.y rfl (Yld.pure tab_ok rfl) ?_
        refine WL.call rfl rfl (W_strings_Repeat H) ?_
        rintro _ w1 ⟨hg1, t4, rfl, H⟩
        have gr1 := hg1
        refine WL.y rfl (Yld.pure tab_ok rfl) ?_
        refine WL.y rfl (Yld.pure tab_ok rfl) ?_
        refine WL.nil (WX.then_normal ?_)
        refine WC.ret ?_
        exact WX.ret2 rfl rfl rfl ⟨gr1, t4, .nilIface, Er.ok, rfl, (ErrR.okR (S := S) (w := w1)), H⟩
  · clear H
    rcases Bool.eq_false_or_eq_true (decide (n < (1 : Int))) with b3 | b3
    · refine WL.gno rfl rfl (okb b3) rfl ?_
      refine WL.gno rfl rfl (okb b3) rfl ?_
      refine WL.y rfl (Yld.pickT (okb b3) rfl) ?_
      exact WL.weaken (by repeat (first | exact Sub.nil | refine Sub.cons rfl ?_)) (hQ _ _ ⟨true, rfl, by rw [b3] <;> rfl, rfl⟩)
    · refine WL.gyes rfl rfl (okb b3) rfl (Yld.pure tab_ok rfl) ?_
      refine WL.gyes rfl rfl (okb b3) rfl (Yld.pure tab_ok rfl) ?_
      refine WL.y rfl (Yld.pickF (okb b3) rfl) ?_
      exact WL.weaken (by repeat (first | exact Sub.nil | refine Sub.cons rfl ?_)) (hQ _ _ ⟨decide (s = ([] : List UInt8)), rfl, by rw [b3] <;> rfl, rfl⟩)

end Go.Proofs.YtjinkmipkfjblaaDoor

 /- Printed by a program (wip/vg): what the functions mean, plainly, and their walks. -/
namespace Go.Proofs.YtjinkmipkfjblaaDoor
open Go Go.RowKit
attribute [local irreducible] WL WC WX WQ WK WJ Yld Eff Ef0 Fn
def M_smithyref_SameTexts (a : List (List UInt8)) (b : List (List UInt8)) (K : Bool → Prop) : Prop :=
 (a.length ≤ maxLen →
 (b.length ≤ maxLen →
 ((¬ ((a.length : Int) = (b.length : Int)) → K false) ∧
 ((a.length : Int) = (b.length : Int) → Lp1 (fun (i : Int) k_1 => ((i < (a.length : Int) → (0 ≤ i ∧ i < (a.length : Nat)) ∧
 (0 ≤ i ∧ i < (b.length : Nat)) ∧
 ((¬ ((a.getD i.toNat []) = (b.getD i.toNat [])) → K false) ∧
 ((a.getD i.toNat []) = (b.getD i.toNat []) → (In .i64 (i + (1 : Int))) ∧
 k_1 (i + (1 : Int))))) ∧
 (¬ (i < (a.length : Int)) → K true))) (0 : Int)))))

set_option maxHeartbeats 8000000 in
theorem W_smithyref_SameTexts {w : World} {a : List (List UInt8)} {A_a : Option Addr} {c_a : Nat} {b : List (List UInt8)} {A_b : Option Addr} {c_b : Nat} {n_a : Nat} {n_b : Nat} {K : Bool → Prop} (ha : Rd vs w A_a c_a a) (hn_a : n_a = a.length) (hb : Rd vs w A_b c_b b) (hn_b : n_b = b.length) (H : M_smithyref_SameTexts a b K) : Fn Tryd.prog 26 ⟨[.slice A_a n_a c_a, .slice A_b n_b c_b]⟩ w (fun v w' => w = w' ∧ ∃ (r : Bool), v = .bool r ∧ K r) := by
  subst hn_a
  subst hn_b
  unfold M_smithyref_SameTexts at H
  refine Fn.enter (by kernel_rfl) Tryd.func26 rfl Tryd.ntmps26 rfl ?_
  replace H := H (Nat.le_trans ha.cap ha.max)
  replace H := H (Nat.le_trans hb.cap hb.max)
  refine WC.seq ?_
  refine WC.region ?_
  refine WL.y rfl (Yld.pure tab_ok rfl) ?_
  refine WL.nil (WX.then_normal ?_)
  refine WC.seq ?_
  refine WC.seq ?_
  refine WC.region ?_
  refine WL.y rfl (Yld.pure tab_ok rfl) ?_
  refine WL.y rfl (Yld.pure tab_ok rfl) ?_
  refine WL.y rfl (Yld.pure tab_ok rfl) ?_
  refine WL.y rfl (Yld.pure tab_ok rfl) ?_
  refine WL.y rfl (Yld.pure tab_ok rfl) ?_
  refine WL.nil (WX.then_normal ?_)
  refine WC.cond rfl (fun b1 => ?_) (fun b1 => ?_)
  · replace H := H.1 (nd_true b1)
    refine WC.seq ?_
    refine WC.region ?_
    refine WL.y rfl (Yld.pure tab_ok rfl) ?_
    refine WL.nil (WX.then_normal ?_)
    refine WC.ret (WX.then_ret ?_)
    exact WX.ret1 rfl rfl ⟨rfl, false, rfl, H⟩
  · replace H := H.2 (nd_false b1)
    refine WC.skip (WX.then_normal ?_)
    refine WC.seq ?_
    refine WC.seq ?_
    refine WC.region ?_
    refine WL.y rfl (Yld.pure tab_ok rfl) ?_
    refine WL.nil (WX.then_normal ?_)
    refine WC.block ?_
    obtain ⟨I1, mu1, h0_1, HR1⟩ := H
    refine WC.loopF (fun n' L' w' => ∃ (i : Int), n' = mu1 i ∧ L' = [(0, .slice A_a a.length c_a), (1, .slice A_b b.length c_b), (5, .int .i64 i)] ∧ I1 i ∧ w = w') _ _ ⟨(0 : Int), rfl, rfl, h0_1, rfl⟩ (by repeat (first | exact Sub.nil | refine Sub.cons rfl ?_)) ?_
    clear h0_1
    rintro _ _ _ ⟨i, rfl, rfl, hI1, rfl⟩
    have H := HR1 i hI1
    refine WC.seq ?_
    refine WC.seq ?_
    refine WC.region ?_
    refine WL.y rfl (Yld.pure tab_ok rfl) ?_
    refine WL.y rfl (Yld.pure tab_ok rfl) ?_
    refine WL.y rfl (Yld.pure tab_ok rfl) ?_
    refine WL.y rfl (Yld.pure tab_ok rfl) ?_
    refine WL.nil (WX.then_normal ?_)
    refine WC.cond rfl (fun b2 => ?_) (fun b2 => ?_)
    · replace H := H.1 (of_decide_eq_true b2)
      refine WC.skip (WX.then_normal ?_)
      refine WC.seq ?_
      refine WC.block ?_
      refine WC.seq ?_
      refine WC.quiet mixed (by kernel_rfl) ?_
      refine WQ.y rfl (Yld.pure tab_ok rfl) ?_
      refine WQ.y rfl (Yld.pure tab_ok rfl) ?_
      obtain ⟨h1, H⟩ := H
      refine WQ.y rfl (Yld.iaddrW tab_ok ha rfl rfl rfl rfl h1.1 h1.2) ?_
      refine WQ.y rfl (Yld.iload [] tab_ok ha rfl rfl (iltN h1 rfl)) ?_
      refine WQ.y rfl (Yld.pure tab_ok rfl) ?_
      refine WQ.y rfl (Yld.pure tab_ok rfl) ?_
      obtain ⟨h2, H⟩ := H
      refine WQ.y rfl (Yld.iaddrW tab_ok hb rfl rfl rfl rfl h2.1 h2.2) ?_
      refine WQ.y rfl (Yld.iload [] tab_ok hb rfl rfl (iltN h2 rfl)) ?_
      refine WQ.y rfl (Yld.pure tab_ok rfl) ?_
      refine WQ.y rfl (Yld.pure tab_ok rfl) ?_
      refine WQ.nil (WX.then_normal ?_)
      refine WC.seq ?_
      refine WC.region ?_
      refine WL.y rfl (Yld.pure tab_ok rfl) ?_
      refine WL.y rfl (Yld.pure tab_ok rfl) ?_
      refine WL.nil (WX.then_normal ?_)
      refine WC.cond rfl (fun b3 => ?_) (fun b3 => ?_)
      · replace H := H.1 (nd_true b3)
        refine WC.seq ?_
        refine WC.region ?_
        refine WL.y rfl (Yld.pure tab_ok rfl) ?_
        refine WL.nil (WX.then_normal ?_)
        refine WC.ret (WX.block_ret (WX.then_ret (WX.then_ret (WX.block_ret (WX.then_ret ?_)))))
        exact WX.ret1 rfl rfl ⟨rfl, false, rfl, H⟩
      · replace H := H.2 (nd_false b3)
        refine WC.skip (WX.block_normal (WX.then_normal ?_))
        refine WC.region ?_
        refine WL.y rfl (Yld.pure tab_ok rfl) ?_
        obtain ⟨h3, H⟩ := H
        refine WL.y rfl (Yld.add rfl rfl h3) ?_
        refine WL.y rfl (Yld.pure tab_ok rfl) ?_
        refine WL.nil ?_
        exact WX.roundF _ ⟨i + (1 : Int), rfl, rfl, H.1, rfl⟩ (by repeat (first | exact Sub.nil | refine Sub.cons rfl ?_)) H.2
    · replace H := H.2 (of_decide_eq_false b2)
      refine WC.exit (WX.then_exit (WX.then_exit (WX.block_same (WX.then_normal ?_))))
      refine WC.seq ?_
      refine WC.region ?_
      refine WL.y rfl (Yld.pure tab_ok rfl) ?_
      refine WL.nil (WX.then_normal ?_)
      refine WC.ret ?_
      exact WX.ret1 rfl rfl ⟨rfl, true, rfl, H⟩

end Go.Proofs.YtjinkmipkfjblaaDoor

 /- Regions some of whose operations may come in several orders: the floats once, the others order by order, what stands behind once. -/
namespace Go.Proofs.YtjinkmipkfjblaaDoor
open Go Go.RowKit
section
variable {P : Program} {N : Nat} {ops : Array Oper} {fl : Nat → Bool} {D : World → Prop} {n g : Nat} {K : Act → World → Prop} {Q : Post} {L : Slots} {w : World} {f : Nat} {listed : Array Bool} {d : Nat} {op : Op} {ty : TypeId} {pos : String} {af : Array Edge} {gd : Option (Nat × Bool)}
structure HeadOk (ops : Array Oper) (n : Nat) : Prop where
  sel : Region.noSelect ops = true
  sink : Region.sinkB .any ops n = true
  chain : Region.chainB .any ops n = true
  lt : n < ops.size
def WA (P : Program) (N : Nat) (ops : Array Oper) (fl : Nat → Bool) (D : World → Prop) (n g : Nat) (K : Act → World → Prop) (f : Nat) (listed : Array Bool) (L : Slots) (w : World) : Prop :=
  HeadOk ops n → HeadInv .any ops n listed → ∀ a w1, Eqv w w1 → D w1 → Has N L a → anyT P .any ops fl D n (fun l' a' w' => Region.seqB .any ops g n l' = true ∧ K a' w') f listed a w1
def WI (P : Program) (N : Nat) (ops : Array Oper) (fl : Nat → Bool) (D : World → Prop) (n g : Nat) (K : Act → World → Prop) (f : Nat) (listed : Array Bool) (L : Slots) (w : World) (i : Nat) : Prop :=
  HeadOk ops n → HeadInv .any ops n (listed.setIfInBounds i true) → ∀ a w1, Eqv w w1 → D w1 → Has N L a → ∃ o, ops[i]? = some o ∧ fl i = false ∧ sRun P ops D o a w1 fun a' w' => anyT P .any ops fl D n (fun l' a' w' => Region.seqB .any ops g n l' = true ∧ K a' w') f (listed.setIfInBounds i true) a' w'
theorem WA.y {v : Value} (k : Nat) (ho : ops[k]? = some ⟨some d, op, ty, pos, af, none⟩) (hf : (fl k && ((Region.ready .any ops listed).contains k && (Region.free .any ops listed k && Nat.blt k n))) = true) (hd : Nat.blt d N = true) (hy : ∀ w', D w' → Yld P N w' ⟨some d, op, ty, pos, af, none⟩ L v)
    (h : WA P N ops fl D n g K f (listed.setIfInBounds k true) ((d, v) :: L) w) : WA P N ops fl D n g K (f + 1) listed L w := fun ok inv a w1 e hw ha => by
  simp only [Bool.and_eq_true] at hf
  obtain ⟨hfl, hr, hfr, hkn⟩ := hf
  have hr' : k ∈ Region.ready .any ops listed := by simpa using hr
  have hkn' : k < n := by simpa [Nat.blt_eq] using hkn
  exact float_firstT ho hfl (Region.noSelect_spec ok.sel) ok.sink ok.chain ok.lt hkn' (fun _ _ _ hL => seqB_ready hL.1) f listed a w1 hw inv (Region.free_spec ho hfr) hr'
    (.inl ⟨by simp [Region.wanted], fun w' hw' => hy w' hw' a w' (Eqv.refl _) ha⟩) (h ok (inv.set hr' hkn') _ _ e hw (ha.put hd v))
def AllL {α : Type} (p : α → Prop) : List α → Prop
  | [] => True
  | [x] => p x
  | x :: y :: l => p x ∧ AllL p (y :: l)
theorem AllL.mem {α : Type} {p : α → Prop} : ∀ {l : List α}, AllL p l → ∀ x ∈ l, p x
  | [], _, x, h => by simp at h
  | [y], h, x, hx => by simp at hx; subst hx; exact h
  | y :: z :: l, h, x, hx => by
    rcases List.mem_cons.1 hx with rfl | hx
    · exact h.1
    · exact AllL.mem h.2 x hx
theorem WA.split (is : List Nat) (hr : Region.ready .any ops listed = is) (hc : (!is.isEmpty && is.all fun i => Nat.blt i n) = true) (h : AllL (WI P N ops fl D n g K f listed L w) is) : WA P N ops fl D n g K (f + 1) listed L w := fun ok inv a w1 e hw ha => by
  simp only [Bool.and_eq_true] at hc
  refine ⟨fun h0 => ?_, fun i hi => ?_⟩
  · rw [hr] at h0; subst h0; simp at hc
  · have hi' := hi
    rw [hr] at hi'
    have hin : i < n := by have := List.all_eq_true.1 hc.2 i hi'; simpa [Nat.blt_eq] using this
    obtain ⟨o, ho, hfl, hs⟩ := h.mem i hi' ok (inv.set hi hin) a w1 e hw ha
    exact ⟨hin, o, ho, .inr ⟨hfl, hs⟩⟩
theorem WI.put {i : Nat} {R : Value → World → Prop} (ho : ops[i]? = some ⟨some d, op, ty, pos, af, none⟩) (hf : fl i = false) (hd : Nat.blt d N = true) (hr : Eff P N w ⟨some d, op, ty, pos, af, none⟩ L R) (hD : ∀ v w', R v w' → D w')
    (hk : ∀ v w', R v w' → WA P N ops fl D n g K f (listed.setIfInBounds i true) ((d, v) :: L) w') : WI P N ops fl D n g K f listed L w i := fun ok inv a w1 e hw ha => by
  refine ⟨_, ho, hf, ?_⟩
  unfold sRun
  rw [if_pos (by simp [Region.wanted])]
  obtain ⟨v, w', h, hR⟩ := hr a w1 e ha
  rw [h]
  exact ⟨hD v w' hR, hk v w' hR ok inv _ w' (Eqv.refl _) (hD v w' hR) (ha.put hd v)⟩
theorem WI.eff {i : Nat} {R : World → Prop} (ho : ops[i]? = some ⟨none, op, ty, pos, af, none⟩) (hf : fl i = false) (hr : Ef0 P N w ⟨none, op, ty, pos, af, none⟩ L R) (hD : ∀ w', R w' → D w')
    (hk : ∀ w', R w' → WA P N ops fl D n g K f (listed.setIfInBounds i true) L w') : WI P N ops fl D n g K f listed L w i := fun ok inv a w1 e hw ha => by
  refine ⟨_, ho, hf, ?_⟩
  unfold sRun
  rw [if_pos (by simp [Region.wanted])]
  obtain ⟨w', h, hR⟩ := hr a w1 e ha
  rw [h]
  exact ⟨hD w' hR, hk w' hR ok inv _ w' (Eqv.refl _) (hD w' hR) ha⟩
theorem WI.call {i : Nat} {R : Value → World → Prop} {fn : FuncId} {as_ : List Operand} {ts : Array TypeId} {vs : List Value} (ho : ops[i]? = some ⟨some d, .call ⟨.value (.func fn), ⟨as_⟩, ts⟩, ty, pos, af, gd⟩) (hf : fl i = false) (hg : Wants N ops L gd) (hd : Nat.blt d N = true) (hv : opvs L as_ = some vs) (hc : Fn P fn ⟨vs⟩ w R) (hD : ∀ v w', R v w' → ∀ w2, Eqv w' w2 → D w2)
    (hk : ∀ v w', R v w' → WA P N ops fl D n g K f (listed.setIfInBounds i true) ((d, v) :: L) w') : WI P N ops fl D n g K f listed L w i := fun ok inv a w1 e hw ha => by
  refine ⟨_, ho, hf, ?_⟩
  unfold sRun
  rw [if_pos (Wants.wanted (o := ⟨some d, .call ⟨.value (.func fn), ⟨as_⟩, ts⟩, ty, pos, af, gd⟩) hg ha), run_enter ha hv hc.1]
  refine (hc.2 w1 e).mono ?_
  rintro en w' ⟨v, w0, rfl, h0, hR⟩
  exact ⟨v, rfl, hD v w0 hR w' h0, hk v w0 hR ok inv _ w' h0 (hD v w0 hR w' h0) (ha.put hd v)⟩
end
end Go.Proofs.YtjinkmipkfjblaaDoor

 /- Printed by a program (wip/vg): what the functions mean, plainly, and their walks. -/
namespace Go.Proofs.YtjinkmipkfjblaaDoor
open Go Go.RowKit
attribute [local irreducible] WL WC WX WQ WK WJ Yld Eff Ef0 Fn
def M_smithyworld_Number (n : Int) (below : Int) (K : Int → Prop) : Prop :=
 (below ≠ 0) ∧
 (In .i64 ((n.tmod below) + below)) ∧
 (below ≠ 0) ∧
 K (((n.tmod below) + below).tmod below)

def M_smithylaw11_first (K : Bool → Prop) : Prop :=
 M_str_Split ([97, 44, 98, 44, 44, 99] : List UInt8) ([44] : List UInt8) (2 : Int) (fun (t80 : List (List UInt8)) (t81 : Er) =>
 M_str_Format ([123, 125, 45, 123, 120, 125] : List UInt8) ([([49] : List UInt8)] : List (List UInt8)) ([([120] : List UInt8)] : List (List UInt8)) ([([50] : List UInt8)] : List (List UInt8)) (fun (t150 : List UInt8) (t151 : Er) =>
 M_str_Cut (5 : Int) (-2 : Int) (9 : Int) true true (fun (t190 : Int) (t191 : Int) =>
 ∃ J1 : Bool → Prop, (((((decide (t81 = Er.ok)) && (decide (t151 = Er.ok))) = true → M_smithyref_SameTexts t80 ([([97] : List UInt8), ([98] : List UInt8), ([44, 99] : List UInt8)] : List (List UInt8)) (fun (t31 : Bool) =>
 J1 t31)) ∧
 (((decide (t81 = Er.ok)) && (decide (t151 = Er.ok))) = false → J1 false))) ∧
 (∀ q2 : Bool, J1 q2 → K (((q2 && (decide (t150 = ([49, 45, 50] : List UInt8)))) && (decide (t190 = (3 : Int)))) && (decide (t191 = (5 : Int))))))))

def M_smithylaw11_StrRooms (n : Int) (k : Int) (K : Bool → Prop) : Prop :=
 M_smithylaw11_first (fun (ok : Bool) =>
 (((!ok) = true → K false) ∧
 ((!ok) = false → M_smithyworld_Number n (60 : Int) (fun (t19 : Int) =>
 (In .i64 (t19 + (1 : Int))) ∧
 M_smithyworld_Number k (300 : Int) (fun (k_2 : Int) =>
 Lp2 (fun (unit : List UInt8) (i : Int) k_1 => ((i < (t19 + (1 : Int)) → (unit.length + ([122] : List UInt8).length ≤ 9223372036854775807) ∧
 (In .i64 (i + (1 : Int))) ∧
 k_1 (unit ++ ([122] : List UInt8)) (i + (1 : Int))) ∧
 (¬ (i < (t19 + (1 : Int))) → M_str_Repeat unit k_2 (fun (t330 : List UInt8) (t331 : Er) =>
 (In .i64 ((t19 + (1 : Int)) * k_2)) ∧
 ((decide (((t19 + (1 : Int)) * k_2) ≤ (1024 : Int))) = true → (!decide (t331 = Er.ok)) = false → (In .i64 ((t19 + (1 : Int)) * k_2))) ∧
 ∃ J1 : Bool → Prop, (((((decide (((t19 + (1 : Int)) * k_2) ≤ (1024 : Int))) && ((!decide (t331 = Er.ok)) || (!decide ((t330.length : Int) = ((t19 + (1 : Int)) * k_2))))) = true → J1 true) ∧
 (((decide (((t19 + (1 : Int)) * k_2) ≤ (1024 : Int))) && ((!decide (t331 = Er.ok)) || (!decide ((t330.length : Int) = ((t19 + (1 : Int)) * k_2))))) = false → (((!decide (((t19 + (1 : Int)) * k_2) ≤ (1024 : Int))) = true → M_smithysee_Is t331 (108 : Int) (fun (t58 : Bool) =>
 J1 (!t58))) ∧
 ((!decide (((t19 + (1 : Int)) * k_2) ≤ (1024 : Int))) = false → J1 false))))) ∧
 (∀ q2 : Bool, J1 q2 → ((q2 = true → K false) ∧
 (q2 = false → ((¬ (((t19 + (1 : Int)) * k_2) ≤ (1024 : Int)) → K (ok && (decide (t330 = ([] : List UInt8))))) ∧
 (((t19 + (1 : Int)) * k_2) ≤ (1024 : Int) → M_str_Join t330 ([unit, unit] : List (List UInt8)) (fun (t740 : List UInt8) (t741 : Er) =>
 (In .i64 ((2 : Int) * (t19 + (1 : Int)))) ∧
 (In .i64 ((t19 + (1 : Int)) * k_2)) ∧
 (In .i64 (((2 : Int) * (t19 + (1 : Int))) + ((t19 + (1 : Int)) * k_2))) ∧
 ((!((decide (t741 = Er.ok)) == (decide ((((2 : Int) * (t19 + (1 : Int))) + ((t19 + (1 : Int)) * k_2)) ≤ (1024 : Int))))) = false → (decide (t741 = Er.ok)) = true → (In .i64 ((2 : Int) * (t19 + (1 : Int))))) ∧
 ((!((decide (t741 = Er.ok)) == (decide ((((2 : Int) * (t19 + (1 : Int))) + ((t19 + (1 : Int)) * k_2)) ≤ (1024 : Int))))) = false → (decide (t741 = Er.ok)) = true → (In .i64 ((t19 + (1 : Int)) * k_2))) ∧
 ((!((decide (t741 = Er.ok)) == (decide ((((2 : Int) * (t19 + (1 : Int))) + ((t19 + (1 : Int)) * k_2)) ≤ (1024 : Int))))) = false → (decide (t741 = Er.ok)) = true → (In .i64 (((2 : Int) * (t19 + (1 : Int))) + ((t19 + (1 : Int)) * k_2)))) ∧
 ((((!((decide (t741 = Er.ok)) == (decide ((((2 : Int) * (t19 + (1 : Int))) + ((t19 + (1 : Int)) * k_2)) ≤ (1024 : Int))))) || ((decide (t741 = Er.ok)) && (!decide ((t740.length : Int) = (((2 : Int) * (t19 + (1 : Int))) + ((t19 + (1 : Int)) * k_2)))))) = true → K false) ∧
 (((!((decide (t741 = Er.ok)) == (decide ((((2 : Int) * (t19 + (1 : Int))) + ((t19 + (1 : Int)) * k_2)) ≤ (1024 : Int))))) || ((decide (t741 = Er.ok)) && (!decide ((t740.length : Int) = (((2 : Int) * (t19 + (1 : Int))) + ((t19 + (1 : Int)) * k_2)))))) = false → M_str_Replace t330 ([122] : List UInt8) ([121, 121] : List UInt8) (-1 : Int) (fun (t1040 : List UInt8) (t1041 : Er) =>
 (ok = true → (In .i64 ((2 : Int) * (t19 + (1 : Int))))) ∧
 (ok = true → (In .i64 (((2 : Int) * (t19 + (1 : Int))) * k_2))) ∧
 ((ok && ((decide (t1041 = Er.ok)) == (decide ((((2 : Int) * (t19 + (1 : Int))) * k_2) ≤ (1024 : Int))))) = true → (!decide (t1041 = Er.ok)) = false → (In .i64 ((2 : Int) * (t19 + (1 : Int))))) ∧
 ((ok && ((decide (t1041 = Er.ok)) == (decide ((((2 : Int) * (t19 + (1 : Int))) * k_2) ≤ (1024 : Int))))) = true → (!decide (t1041 = Er.ok)) = false → (In .i64 (((2 : Int) * (t19 + (1 : Int))) * k_2))) ∧
 K ((ok && ((decide (t1041 = Er.ok)) == (decide ((((2 : Int) * (t19 + (1 : Int))) * k_2) ≤ (1024 : Int))))) && ((!decide (t1041 = Er.ok)) || (decide ((t1040.length : Int) = (((2 : Int) * (t19 + (1 : Int))) * k_2)))))))))))))))))) ([] : List UInt8) (0 : Int))))))

set_option maxHeartbeats 8000000 in
theorem W_smithyworld_Number {w : World} {n : Int} {below : Int} {K : Int → Prop} (H : M_smithyworld_Number n below K) : Fn Tryd.prog 23 ⟨[.int .i64 n, .int .i64 below]⟩ w (fun v w' => w = w' ∧ ∃ (r : Int), v = .int .i64 r ∧ K r) := by
  unfold M_smithyworld_Number at H
  refine Fn.enter (by kernel_rfl) Tryd.func23 rfl Tryd.ntmps23 rfl ?_
  refine WC.seq ?_
  refine WC.region ?_
  refine WL.y rfl (Yld.pure tab_ok rfl) ?_
  refine WL.nil (WX.then_normal ?_)
  refine WC.seq ?_
  refine WC.region ?_
  refine WL.y rfl (Yld.pure tab_ok rfl) ?_
  refine WL.y rfl (Yld.pure tab_ok rfl) ?_
  obtain ⟨h1, H⟩ := H
  refine WL.y rfl (Yld.rem' rfl rfl h1) ?_
  refine WL.y rfl (Yld.pure tab_ok rfl) ?_
  obtain ⟨h2, H⟩ := H
  refine WL.y rfl (Yld.add rfl rfl h2) ?_
  refine WL.y rfl (Yld.pure tab_ok rfl) ?_
  obtain ⟨h3, H⟩ := H
  refine WL.y rfl (Yld.rem' rfl rfl h3) ?_
  refine WL.y rfl (Yld.pure tab_ok rfl) ?_
  refine WL.nil (WX.then_normal ?_)
  refine WC.ret ?_
  exact WX.ret1 rfl rfl ⟨rfl, ((n.tmod below) + below).tmod below, rfl, H⟩

set_option maxHeartbeats 8000000 in
theorem W_smithylaw11_first {S : List Nat} {w : World} {K : Bool → Prop} (hG : GOK S w) (hS3 : 3 ∈ S) (hS7 : 7 ∈ S) (hS100 : 100 ∈ S) (H : M_smithylaw11_first  K) : Fn Tryd.prog 17 ⟨[]⟩ w (fun v w' => w.grownBy w' none ∧ ∃ (r : Bool), v = .bool r ∧ K r) := by
  unfold M_smithylaw11_first at H
  refine Fn.enter (by kernel_rfl) Tryd.func17 rfl Tryd.ntmps17 rfl ?_
  refine WC.seq ?_
  refine WC.region ?_
  refine WL.y rfl (Yld.pure tab_ok rfl) ?_
  refine WL.nil (WX.then_normal ?_)
  refine WC.seq ?_
  refine WC.region ?_
  refine WL.call rfl rfl (W_str_Split hG hS3 hS7 hS100 H) ?_
  rintro _ w1 ⟨hg1, t80, A_t80, c_t80, v_t81, t81, rfl, ht80, ht81, H⟩
  have hb1 := ht80.ge'
  have k1 := ht80.base (fun g hg => Nat.le_trans (Nat.le_refl _) (hb1 g hg))
  have gr1 := hg1
  refine WL.y rfl (Yld.pure tab_ok rfl) ?_
  refine WL.y rfl (Yld.pure tab_ok rfl) ?_
  refine WL.y rfl (Yld.pure tab_ok rfl) ?_
  refine WL.y rfl (Yld.pure tab_ok rfl) ?_
  refine WL.y rfl (Yld.pure tab_ok rfl) ?_
  refine WL.nil (WX.then_normal ?_)
  refine WC.seq ?_
  refine WC.region ?_
  refine WL.lit tab_ok rfl rfl rfl (all1c rfl all1n) rfl (by omega) (fun g1 w2 hB1 hg2 hl1 => ?_)
  have hO1 : Own vs w2 w.heap.size 9 (some ⟨g1, 0, none⟩) 1 ([([49] : List UInt8)] : List (List UInt8)) := Own.ofBl hB1 (Nat.le_trans (size_le gr1) hl1) (by simp [maxLen]) rfl
  have gr2 := gr_trans gr1 hg2
  have k2 := k1.grown hg2
  have k3 := ht81.grown hg2
  refine WL.lit tab_ok rfl rfl rfl (all1c rfl all1n) rfl (by omega) (fun g2 w3 hB2 hg3 hl2 => ?_)
  have hO2 : Own vs w3 w.heap.size 9 (some ⟨g2, 0, none⟩) 1 ([([120] : List UInt8)] : List (List UInt8)) := Own.ofBl hB2 (Nat.le_trans (size_le gr2) hl2) (by simp [maxLen]) rfl
  have gr3 := gr_trans gr2 hg3
  have k4 := k2.grown hg3
  have k5 := k3.grown hg3
  have k6 := hO1.grown hg3
  refine WL.lit tab_ok rfl rfl rfl (all1c rfl all1n) rfl (by omega) (fun g3 w4 hB3 hg4 hl3 => ?_)
  have hO3 : Own vs w4 w.heap.size 9 (some ⟨g3, 0, none⟩) 1 ([([50] : List UInt8)] : List (List UInt8)) := Own.ofBl hB3 (Nat.le_trans (size_le gr3) hl3) (by simp [maxLen]) rfl
  have gr4 := gr_trans gr3 hg4
  have k7 := k4.grown hg4
  have k8 := k5.grown hg4
  have k9 := k6.grown hg4
  have k10 := hO2.grown hg4
  refine WL.call rfl rfl (W_str_Format (hG.grown gr4) hS3 hS7 k9.rd rfl k10.rd rfl hO3.rd rfl H) ?_
  rintro _ w5 ⟨hg5, t150, v_t151, t151, rfl, ht151, H⟩
  have gr5 := gr_trans gr4 hg5
  have k11 := k7.grown hg5
  have k12 := k8.grown hg5
  refine WL.y rfl (Yld.pure tab_ok rfl) ?_
  refine WL.y rfl (Yld.pure tab_ok rfl) ?_
  refine WL.y rfl (Yld.pure tab_ok rfl) ?_
  refine WL.y rfl (Yld.pure tab_ok rfl) ?_
  refine WL.y rfl (Yld.pure tab_ok rfl) ?_
  refine WL.nil (WX.then_normal ?_)
  refine WC.seq ?_
  refine WC.region ?_
  refine WL.call rfl rfl (W_str_Cut H) ?_
  rintro _ _ ⟨rfl, t190, t191, rfl, H⟩
  refine WL.y rfl (Yld.pure tab_ok rfl) ?_
  refine WL.y rfl (Yld.pure tab_ok rfl) ?_
  refine WL.y rfl (Yld.pure tab_ok rfl) ?_
  refine WL.y rfl (Yld.pure tab_ok rfl) ?_
  refine WL.y rfl (Yld.pure tab_ok rfl) ?_
  refine WL.nil (WX.then_normal ?_)
  refine WC.seq ?_
  refine WC.region ?_
  refine WL.y rfl (Yld.pure tab_ok rfl) ?_
  refine WL.y rfl (Yld.erreql Tryd.underlying29 k12 rfl) ?_
  refine WL.y rfl (Yld.pure tab_ok rfl) ?_
  refine WL.midF 3 (fun L' w' => ∃ q1 : Bool, L' = [(27, .bool q1), (1, .slice A_t80 t80.length c_t80), (3, vs t150), (5, .int .i64 t190), (6, .int .i64 t191)] ∧ q1 = ((decide (t81 = Er.ok)) && (decide (t151 = Er.ok))) ∧ w5 = w') ?_ (fun hQ => ?_)
  · rintro _ _ ⟨q1, rfl, rfl, rfl⟩
    refine WL.y rfl (Yld.pure tab_ok rfl) ?_
    obtain ⟨J1, H, hJ1⟩ := H
    refine WL.midF 4 (fun L' w' => ∃ q2 : Bool, L' = [(32, .bool q2), (3, vs t150), (5, .int .i64 t190), (6, .int .i64 t191)] ∧ J1 q2 ∧ w.grownBy w' none) ?_ (fun hQ => ?_)
    · clear H
      rintro _ w6 ⟨q2, rfl, H, gr6⟩
      replace H := hJ1 q2 H
      refine WL.y rfl (Yld.pure tab_ok rfl) ?_
      refine WL.midF 3 (fun L' w' => ∃ q3 : Bool, L' = [(36, .bool q3), (5, .int .i64 t190), (6, .int .i64 t191)] ∧ q3 = (q2 && (decide (t150 = ([49, 45, 50] : List UInt8)))) ∧ w6 = w') ?_ (fun hQ => ?_)
      · rintro _ _ ⟨q3, rfl, rfl, rfl⟩
        refine WL.y rfl (Yld.pure tab_ok rfl) ?_
        refine WL.midF 3 (fun L' w' => ∃ q4 : Bool, L' = [(40, .bool q4), (6, .int .i64 t191)] ∧ q4 = ((q2 && (decide (t150 = ([49, 45, 50] : List UInt8)))) && (decide (t190 = (3 : Int)))) ∧ w6 = w') ?_ (fun hQ => ?_)
        · rintro _ _ ⟨q4, rfl, rfl, rfl⟩
          refine WL.y rfl (Yld.pure tab_ok rfl) ?_
          refine WL.midF 3 (fun L' w' => ∃ q5 : Bool, L' = [(44, .bool q5)] ∧ q5 = (((q2 && (decide (t150 = ([49, 45, 50] : List UInt8)))) && (decide (t190 = (3 : Int)))) && (decide (t191 = (5 : Int)))) ∧ w6 = w') ?_ (fun hQ => ?_)
          · rintro _ _ ⟨q5, rfl, rfl, rfl⟩
            refine WL.y rfl (Yld.pure tab_ok rfl) ?_
            refine WL.nil (WX.then_normal ?_)
            refine WC.ret ?_
            exact WX.ret1 rfl rfl ⟨gr6, ((q2 && (decide (t150 = ([49, 45, 50] : List UInt8)))) && (decide (t190 = (3 : Int)))) && (decide (t191 = (5 : Int))), rfl, H⟩
          · clear H
            rcases Bool.eq_false_or_eq_true ((q2 && (decide (t150 = ([49, 45, 50] : List UInt8)))) && (decide (t190 = (3 : Int)))) with b1 | b1
            · refine WL.gyes rfl rfl (okb b1) rfl (Yld.pure tab_ok rfl) ?_
              refine WL.gyes rfl rfl (okb b1) rfl (Yld.pure tab_ok rfl) ?_
              refine WL.y rfl (Yld.pickT (okb b1) rfl) ?_
              exact WL.weaken (by repeat (first | exact Sub.nil | refine Sub.cons rfl ?_)) (hQ _ _ ⟨decide (t191 = (5 : Int)), rfl, by rw [b1] <;> rfl, rfl⟩)
            · refine WL.gno rfl rfl (okb b1) rfl ?_
              refine WL.gno rfl rfl (okb b1) rfl ?_
              refine WL.y rfl (Yld.pickF (okb b1) rfl) ?_
              exact WL.weaken (by repeat (first | exact Sub.nil | refine Sub.cons rfl ?_)) (hQ _ _ ⟨false, rfl, by rw [b1] <;> rfl, rfl⟩)
        · clear H
          rcases Bool.eq_false_or_eq_true (q2 && (decide (t150 = ([49, 45, 50] : List UInt8)))) with b2 | b2
          · refine WL.gyes rfl rfl (okb b2) rfl (Yld.pure tab_ok rfl) ?_
            refine WL.gyes rfl rfl (okb b2) rfl (Yld.pure tab_ok rfl) ?_
            refine WL.y rfl (Yld.pickT (okb b2) rfl) ?_
            exact WL.weaken (by repeat (first | exact Sub.nil | refine Sub.cons rfl ?_)) (hQ _ _ ⟨decide (t190 = (3 : Int)), rfl, by rw [b2] <;> rfl, rfl⟩)
          · refine WL.gno rfl rfl (okb b2) rfl ?_
            refine WL.gno rfl rfl (okb b2) rfl ?_
            refine WL.y rfl (Yld.pickF (okb b2) rfl) ?_
            exact WL.weaken (by repeat (first | exact Sub.nil | refine Sub.cons rfl ?_)) (hQ _ _ ⟨false, rfl, by rw [b2] <;> rfl, rfl⟩)
      · clear H
        rcases Bool.eq_false_or_eq_true (q2) with b3 | b3
        · refine WL.gyes rfl rfl (okb b3) rfl (Yld.pure tab_ok rfl) ?_
          refine WL.gyes rfl rfl (okb b3) rfl (Yld.pure tab_ok rfl) ?_
          refine WL.y rfl (Yld.pickT (okb b3) rfl) ?_
          exact WL.weaken (by repeat (first | exact Sub.nil | refine Sub.cons rfl ?_)) (hQ _ _ ⟨decide (t150 = ([49, 45, 50] : List UInt8)), rfl, by rw [b3] <;> rfl, rfl⟩)
        · refine WL.gno rfl rfl (okb b3) rfl ?_
          refine WL.gno rfl rfl (okb b3) rfl ?_
          refine WL.y rfl (Yld.pickF (okb b3) rfl) ?_
          exact WL.weaken (by repeat (first | exact Sub.nil | refine Sub.cons rfl ?_)) (hQ _ _ ⟨false, rfl, by rw [b3] <;> rfl, rfl⟩)
    · clear hJ1
      rcases Bool.eq_false_or_eq_true ((decide (t81 = Er.ok)) && (decide (t151 = Er.ok))) with b4 | b4
      · replace H := H.1 b4
        refine WL.gyes rfl rfl (okb b4) rfl (Yld.pure tab_ok rfl) ?_
        refine WL.putw (wants_some rfl rfl (okb b4)) rfl (Eff.lit tab_ok rfl rfl (all1c rfl (all1c rfl (all1c rfl all1n))) rfl (by omega)) ?_
        rintro _ w7 ⟨rfl, hB4, hg6⟩
        obtain ⟨g_t30, hl4⟩ : ∃ g, g = w5.heap.size := ⟨_, rfl⟩
        rw [← hl4] at hB4
        rw [← hl4]
        have hO4 : Own vs w7 w.heap.size 9 (some ⟨g_t30, 0, none⟩) 3 ([([97] : List UInt8), ([98] : List UInt8), ([44, 99] : List UInt8)] : List (List UInt8)) := Own.ofBl hB4 (Nat.le_trans (size_le gr5) (Nat.le_of_eq hl4.symm)) (by simp [maxLen]) rfl
        have gr7 := gr_trans gr5 hg6
        have k13 := k11.grown hg6
        refine WL.callw (wants_some rfl rfl (okb b4)) rfl rfl (W_smithyref_SameTexts k13.rd rfl hO4.rd rfl H) ?_
        rintro _ _ ⟨rfl, t31, rfl, H⟩
        refine WL.y rfl (Yld.pickT (okb b4) rfl) ?_
        exact WL.weaken (by repeat (first | exact Sub.nil | refine Sub.cons rfl ?_)) (hQ _ _ ⟨t31, rfl, H, gr7⟩)
      · replace H := H.2 b4
        refine WL.gno rfl rfl (okb b4) rfl ?_
        refine WL.gno rfl rfl (okb b4) rfl ?_
        refine WL.gno rfl rfl (okb b4) rfl ?_
        refine WL.y rfl (Yld.pickF (okb b4) rfl) ?_
        exact WL.weaken (by repeat (first | exact Sub.nil | refine Sub.cons rfl ?_)) (hQ _ _ ⟨false, rfl, H, gr5⟩)
  · clear H
    rcases Bool.eq_false_or_eq_true (decide (t81 = Er.ok)) with b5 | b5
    · refine WL.gyes rfl rfl (okb b5) rfl (Yld.pure tab_ok rfl) ?_
      refine WL.gyes rfl rfl (okb b5) rfl (Yld.erreql Tryd.underlying29 ht151 rfl) ?_
      refine WL.y rfl (Yld.pickT (okb b5) rfl) ?_
      exact WL.weaken (by repeat (first | exact Sub.nil | refine Sub.cons rfl ?_)) (hQ _ _ ⟨decide (t151 = Er.ok), rfl, by rw [b5] <;> rfl, rfl⟩)
    · refine WL.gno rfl rfl (okb b5) rfl ?_
      refine WL.gno rfl rfl (okb b5) rfl ?_
      refine WL.y rfl (Yld.pickF (okb b5) rfl) ?_
      exact WL.weaken (by repeat (first | exact Sub.nil | refine Sub.cons rfl ?_)) (hQ _ _ ⟨false, rfl, by rw [b5] <;> rfl, rfl⟩)

set_option maxHeartbeats 8000000 in
theorem W_smithylaw11_StrRooms {S : List Nat} {w : World} {n : Int} {k : Int} {K : Bool → Prop} (hG : GOK S w) (hS0 : 0 ∈ S) (hS1 : 1 ∈ S) (hS2 : 2 ∈ S) (hS3 : 3 ∈ S) (hS4 : 4 ∈ S) (hS5 : 5 ∈ S) (hS6 : 6 ∈ S) (hS7 : 7 ∈ S) (hS8 : 8 ∈ S) (hS9 : 9 ∈ S) (hS10 : 10 ∈ S) (hS11 : 11 ∈ S) (hS12 : 12 ∈ S) (hS13 : 13 ∈ S) (hS14 : 14 ∈ S) (hS15 : 15 ∈ S) (hS16 : 16 ∈ S) (hS100 : 100 ∈ S) (H : M_smithylaw11_StrRooms n k K) : Fn Tryd.prog 7 ⟨[.int .i64 n, .int .i64 k]⟩ w (fun v w' => w.grownBy w' none ∧ ∃ (r : Bool), v = .bool r ∧ K r) := by
  unfold M_smithylaw11_StrRooms at H
  refine Fn.enter (by kernel_rfl) Tryd.func7 rfl Tryd.ntmps7 rfl ?_
  refine WC.seq ?_
  refine WC.region ?_
  refine WL.y rfl (Yld.pure tab_ok rfl) ?_
  refine WL.nil (WX.then_normal ?_)
  refine WC.seq ?_
  refine WC.region ?_
  refine WL.call rfl rfl (W_smithylaw11_first hG hS3 hS7 hS100 H) ?_
  rintro _ w1 ⟨hg1, ok, rfl, H⟩
  have gr1 := hg1
  refine WL.y rfl (Yld.pure tab_ok rfl) ?_
  refine WL.nil (WX.then_normal ?_)
  refine WC.seq ?_
  refine WC.seq ?_
  refine WC.region ?_
  refine WL.y rfl (Yld.pure tab_ok rfl) ?_
  refine WL.y rfl (Yld.pure tab_ok rfl) ?_
  refine WL.nil (WX.then_normal ?_)
  refine WC.cond rfl (fun b1 => ?_) (fun b1 => ?_)
  · replace H := H.1 (b1)
    refine WC.seq ?_
    refine WC.region ?_
    refine WL.y rfl (Yld.pure tab_ok rfl) ?_
    refine WL.nil (WX.then_normal ?_)
    refine WC.ret (WX.then_ret ?_)
    exact WX.ret1 rfl rfl ⟨gr1, false, rfl, H⟩
  · replace H := H.2 (b1)
    refine WC.skip (WX.then_normal ?_)
    refine WC.seq ?_
    refine WC.region ?_
    refine WL.y rfl (Yld.pure tab_ok rfl) ?_
    refine WL.call rfl rfl (W_smithyworld_Number H) ?_
    rintro _ _ ⟨rfl, t19, rfl, H⟩
    obtain ⟨h1, H⟩ := H
    refine WL.y rfl (Yld.add rfl rfl h1) ?_
    refine WL.y rfl (Yld.pure tab_ok rfl) ?_
    refine WL.nil (WX.then_normal ?_)
    refine WC.seq ?_
    refine WC.region ?_
    refine WL.y rfl (Yld.pure tab_ok rfl) ?_
    refine WL.call rfl rfl (W_smithyworld_Number H) ?_
    rintro _ _ ⟨rfl, k_2, rfl, H⟩
    refine WL.y rfl (Yld.pure tab_ok rfl) ?_
    refine WL.nil (WX.then_normal ?_)
    refine WC.seq ?_
    refine WC.region ?_
    refine WL.y rfl (Yld.pure tab_ok rfl) ?_
    refine WL.nil (WX.then_normal ?_)
    refine WC.seq ?_
    refine WC.seq ?_
    refine WC.region ?_
    refine WL.y rfl (Yld.pure tab_ok rfl) ?_
    refine WL.nil (WX.then_normal ?_)
    refine WC.block ?_
    obtain ⟨I1, mu1, h0_1, HR1⟩ := H
    refine WC.loopF (fun n' L' w' => ∃ (unit : List UInt8), ∃ (i : Int), n' = mu1 unit i ∧ L' = [(0, .int .i64 (t19 + (1 : Int))), (1, .int .i64 k_2), (5, .bool ok), (6, vs unit), (7, .int .i64 i)] ∧ I1 unit i ∧ w1 = w') _ _ ⟨([] : List UInt8), (0 : Int), rfl, rfl, h0_1, rfl⟩ (by repeat (first | exact Sub.nil | refine Sub.cons rfl ?_)) ?_
    clear h0_1
    rintro _ _ _ ⟨unit, i, rfl, rfl, hI1, rfl⟩
    have H := HR1 unit i hI1
    refine WC.seq ?_
    refine WC.seq ?_
    refine WC.region ?_
    refine WL.y rfl (Yld.pure tab_ok rfl) ?_
    refine WL.y rfl (Yld.pure tab_ok rfl) ?_
    refine WL.y rfl (Yld.pure tab_ok rfl) ?_
    refine WL.nil (WX.then_normal ?_)
    refine WC.cond rfl (fun b2 => ?_) (fun b2 => ?_)
    · replace H := H.1 (of_decide_eq_true b2)
      refine WC.skip (WX.then_normal ?_)
      refine WC.seq ?_
      refine WC.block ?_
      refine WC.region ?_
      refine WL.y rfl (Yld.pure tab_ok rfl) ?_
      obtain ⟨h2, H⟩ := H
      refine WL.y rfl (Yld.sadd rfl rfl h2) ?_
      refine WL.y rfl (Yld.pure tab_ok rfl) ?_
      refine WL.nil (WX.block_normal (WX.then_normal ?_))
      refine WC.region ?_
      refine WL.y rfl (Yld.pure tab_ok rfl) ?_
      obtain ⟨h3, H⟩ := H
      refine WL.y rfl (Yld.add rfl rfl h3) ?_
      refine WL.y rfl (Yld.pure tab_ok rfl) ?_
      refine WL.nil ?_
      exact WX.roundF _ ⟨unit ++ ([122] : List UInt8), i + (1 : Int), rfl, rfl, H.1, rfl⟩ (by repeat (first | exact Sub.nil | refine Sub.cons rfl ?_)) H.2
    · replace H := H.2 (of_decide_eq_false b2)
      refine WC.exit (WX.then_exit (WX.then_exit (WX.block_same (WX.then_normal ?_))))
      refine WC.seq ?_
      refine WC.region ?_
      refine WL.y rfl (Yld.pure tab_ok rfl) ?_
      refine WL.y rfl (Yld.pure tab_ok rfl) ?_
      refine WL.call rfl rfl (W_str_Repeat (hG.grown gr1) hS7 H) ?_
      rintro _ w2 ⟨hg2, t330, v_t331, t331, rfl, ht331, H⟩
      have gr2 := gr_trans gr1 hg2
      refine WL.y rfl (Yld.pure tab_ok rfl) ?_
      refine WL.y rfl (Yld.pure tab_ok rfl) ?_
      refine WL.y rfl (Yld.pure tab_ok rfl) ?_
      refine WL.y rfl (Yld.pure tab_ok rfl) ?_
      refine WL.y rfl (Yld.pure tab_ok rfl) ?_
      refine WL.nil (WX.then_normal ?_)
      refine WC.seq ?_
      refine WC.region ?_
      refine WL.y rfl (Yld.pure tab_ok rfl) ?_
      refine WL.y rfl (Yld.pure tab_ok rfl) ?_
      obtain ⟨h4, H⟩ := H
      refine WL.y rfl (Yld.mul rfl rfl h4) ?_
      refine WL.y rfl (Yld.pure tab_ok rfl) ?_
      refine WL.y rfl (Yld.pure tab_ok rfl) ?_
      refine WL.nil (WX.then_normal ?_)
      refine WC.seq ?_
      refine WC.seq ?_
      refine WC.region ?_
      refine WL.y rfl (Yld.pure tab_ok rfl) ?_
      refine WL.y rfl (Yld.pure tab_ok rfl) ?_
      obtain ⟨h5, H⟩ := H
      refine WL.midF 11 (fun L' w' => ∃ q1 : Bool, L' = [(52, .bool q1), (0, .int .i64 (t19 + (1 : Int))), (1, .int .i64 k_2), (5, .bool ok), (6, vs unit), (8, vs t330), (9, v_t331), (10, .bool (decide (((t19 + (1 : Int)) * k_2) ≤ (1024 : Int))))] ∧ q1 = ((decide (((t19 + (1 : Int)) * k_2) ≤ (1024 : Int))) && ((!decide (t331 = Er.ok)) || (!decide ((t330.length : Int) = ((t19 + (1 : Int)) * k_2))))) ∧ w2 = w') ?_ (fun hQ => ?_)
      · rintro _ _ ⟨q1, rfl, rfl, rfl⟩
        refine WL.y rfl (Yld.pure tab_ok rfl) ?_
        obtain ⟨J1, H, hJ1⟩ := H
        refine WL.midF 8 (fun L' w' => ∃ q2 : Bool, L' = [(61, .bool q2), (0, .int .i64 (t19 + (1 : Int))), (1, .int .i64 k_2), (5, .bool ok), (6, vs unit), (8, vs t330), (10, .bool (decide (((t19 + (1 : Int)) * k_2) ≤ (1024 : Int))))] ∧ J1 q2 ∧ w.grownBy w' none) ?_ (fun hQ => ?_)
        · clear H
          rintro _ w3 ⟨q2, rfl, H, gr3⟩
          replace H := hJ1 q2 H
          refine WL.nil (WX.then_normal ?_)
          refine WC.cond rfl (fun b3 => ?_) (fun b3 => ?_)
          · replace H := H.1 (b3)
            refine WC.seq ?_
            refine WC.region ?_
            refine WL.y rfl (Yld.pure tab_ok rfl) ?_
            refine WL.nil (WX.then_normal ?_)
            refine WC.ret (WX.then_ret ?_)
            exact WX.ret1 rfl rfl ⟨gr3, false, rfl, H⟩
          · replace H := H.2 (b3)
            refine WC.skip (WX.then_normal ?_)
            refine WC.seq ?_
            refine WC.seq ?_
            refine WC.region ?_
            refine WL.y rfl (Yld.pure tab_ok rfl) ?_
            refine WL.y rfl (Yld.pure tab_ok rfl) ?_
            refine WL.nil (WX.then_normal ?_)
            refine WC.cond rfl (fun b4 => ?_) (fun b4 => ?_)
            · replace H := H.1 (nd_true b4)
              refine WC.seq ?_
              refine WC.region ?_
              refine WL.y rfl (Yld.pure tab_ok rfl) ?_
              refine WL.y rfl (Yld.pure tab_ok rfl) ?_
              refine WL.midF 3 (fun L' w' => ∃ q3 : Bool, L' = [(68, .bool q3)] ∧ q3 = (ok && (decide (t330 = ([] : List UInt8)))) ∧ w3 = w') ?_ (fun hQ => ?_)
              · rintro _ _ ⟨q3, rfl, rfl, rfl⟩
                refine WL.y rfl (Yld.pure tab_ok rfl) ?_
                refine WL.nil (WX.then_normal ?_)
                refine WC.ret (WX.then_ret ?_)
                exact WX.ret1 rfl rfl ⟨gr3, ok && (decide (t330 = ([] : List UInt8))), rfl, H⟩
              · clear H
                rcases Bool.eq_false_or_eq_true (ok) with b5 | b5
                · refine WL.gyes rfl rfl (okb b5) rfl (Yld.pure tab_ok rfl) ?_
                  refine WL.gyes rfl rfl (okb b5) rfl (Yld.pure tab_ok rfl) ?_
                  refine WL.y rfl (Yld.pickT (okb b5) rfl) ?_
                  exact WL.weaken (by repeat (first | exact Sub.nil | refine Sub.cons rfl ?_)) (hQ _ _ ⟨decide (t330 = ([] : List UInt8)), rfl, by rw [b5] <;> rfl, rfl⟩)
                · refine WL.gno rfl rfl (okb b5) rfl ?_
                  refine WL.gno rfl rfl (okb b5) rfl ?_
                  refine WL.y rfl (Yld.pickF (okb b5) rfl) ?_
                  exact WL.weaken (by repeat (first | exact Sub.nil | refine Sub.cons rfl ?_)) (hQ _ _ ⟨false, rfl, by rw [b5] <;> rfl, rfl⟩)
            · replace H := H.2 (nd_false b4)
              refine WC.skip (WX.then_normal ?_)
              refine WC.seq ?_
              refine WC.region ?_
              refine WL.y rfl (Yld.pure tab_ok rfl) ?_
              refine WL.y rfl (Yld.pure tab_ok rfl) ?_
              refine WL.y rfl (Yld.pure tab_ok rfl) ?_
              refine WL.lit tab_ok rfl rfl rfl (all1c rfl (all1c rfl all1n)) rfl (by omega) (fun g1 w4 hB1 hg3 hl1 => ?_)
              have hO1 : Own vs w4 w.heap.size 9 (some ⟨g1, 0, none⟩) 2 ([unit, unit] : List (List UInt8)) := Own.ofBl hB1 (Nat.le_trans (size_le gr3) hl1) (by simp [maxLen]) rfl
              have gr4 := gr_trans gr3 hg3
              refine WL.call rfl rfl (W_str_Join (hG.grown gr4) hS7 hO1.rd rfl H) ?_
              rintro _ w5 ⟨hg4, t740, v_t741, t741, rfl, ht741, H⟩
              have gr5 := gr_trans gr4 hg4
              refine WL.y rfl (Yld.pure tab_ok rfl) ?_
              refine WL.y rfl (Yld.pure tab_ok rfl) ?_
              refine WL.y rfl (Yld.pure tab_ok rfl) ?_
              refine WL.y rfl (Yld.pure tab_ok rfl) ?_
              refine WL.y rfl (Yld.pure tab_ok rfl) ?_
              refine WL.nil (WX.then_normal ?_)
              refine WC.seq ?_
              refine WC.seq ?_
              refine WC.region ?_
              refine WL.y rfl (Yld.pure tab_ok rfl) ?_
              refine WL.y rfl (Yld.erreql Tryd.underlying29 ht741 rfl) ?_
              refine WL.y rfl (Yld.pure tab_ok rfl) ?_
              obtain ⟨h6, H⟩ := H
              refine WL.y rfl (Yld.mul rfl rfl h6) ?_
              refine WL.y rfl (Yld.pure tab_ok rfl) ?_
              refine WL.y rfl (Yld.pure tab_ok rfl) ?_
              obtain ⟨h7, H⟩ := H
              refine WL.y rfl (Yld.mul rfl rfl h7) ?_
              obtain ⟨h8, H⟩ := H
              refine WL.y rfl (Yld.add rfl rfl h8) ?_
              refine WL.y rfl (Yld.pure tab_ok rfl) ?_
              refine WL.y rfl (Yld.bneq Tryd.underlying4 rfl rfl) ?_
              refine WL.y rfl (Yld.pure tab_ok rfl) ?_
              obtain ⟨h9, H⟩ := H
              obtain ⟨h10, H⟩ := H
              obtain ⟨h11, H⟩ := H
              refine WL.midF 14 (fun L' w' => ∃ q4 : Bool, L' = [(101, .bool q4), (0, .int .i64 (t19 + (1 : Int))), (1, .int .i64 k_2), (5, .bool ok), (8, vs t330)] ∧ q4 = ((!((decide (t741 = Er.ok)) == (decide ((((2 : Int) * (t19 + (1 : Int))) + ((t19 + (1 : Int)) * k_2)) ≤ (1024 : Int))))) || ((decide (t741 = Er.ok)) && (!decide ((t740.length : Int) = (((2 : Int) * (t19 + (1 : Int))) + ((t19 + (1 : Int)) * k_2)))))) ∧ w5 = w') ?_ (fun hQ => ?_)
              · rintro _ _ ⟨q4, rfl, rfl, rfl⟩
                refine WL.nil (WX.then_normal ?_)
                refine WC.cond rfl (fun b6 => ?_) (fun b6 => ?_)
                · replace H := H.1 (b6)
                  refine WC.seq ?_
                  refine WC.region ?_
                  refine WL.y rfl (Yld.pure tab_ok rfl) ?_
                  refine WL.nil (WX.then_normal ?_)
                  refine WC.ret (WX.then_ret ?_)
                  exact WX.ret1 rfl rfl ⟨gr5, false, rfl, H⟩
                · replace H := H.2 (b6)
                  refine WC.skip (WX.then_normal ?_)
                  refine WC.seq ?_
                  refine WC.region ?_
                  refine WL.y rfl (Yld.pure tab_ok rfl) ?_
                  refine WL.call rfl rfl (W_str_Replace (hG.grown gr5) hS7 hS100 H) ?_
                  rintro _ w6 ⟨hg5, t1040, v_t1041, t1041, rfl, ht1041, H⟩
                  have gr6 := gr_trans gr5 hg5
                  refine WL.y rfl (Yld.pure tab_ok rfl) ?_
                  refine WL.y rfl (Yld.pure tab_ok rfl) ?_
                  refine WL.y rfl (Yld.pure tab_ok rfl) ?_
                  refine WL.y rfl (Yld.pure tab_ok rfl) ?_
                  refine WL.y rfl (Yld.pure tab_ok rfl) ?_
                  refine WL.nil (WX.then_normal ?_)
                  refine WC.seq ?_
                  refine WC.region ?_
                  refine WL.y rfl (Yld.pure tab_ok rfl) ?_
                  refine WL.y rfl (Yld.pure tab_ok rfl) ?_
                  obtain ⟨h12, H⟩ := H
                  obtain ⟨h13, H⟩ := H
                  refine WL.midF 9 (fun L' w' => ∃ q5 : Bool, L' = [(117, .bool q5), (0, .int .i64 (t19 + (1 : Int))), (1, .int .i64 k_2), (13, vs t1040), (14, v_t1041)] ∧ q5 = (ok && ((decide (t1041 = Er.ok)) == (decide ((((2 : Int) * (t19 + (1 : Int))) * k_2) ≤ (1024 : Int))))) ∧ w6 = w') ?_ (fun hQ => ?_)
                  · rintro _ _ ⟨q5, rfl, rfl, rfl⟩
                    refine WL.y rfl (Yld.pure tab_ok rfl) ?_
                    obtain ⟨h14, H⟩ := H
                    obtain ⟨h15, H⟩ := H
                    refine WL.midF 12 (fun L' w' => ∃ q6 : Bool, L' = [(130, .bool q6)] ∧ q6 = ((ok && ((decide (t1041 = Er.ok)) == (decide ((((2 : Int) * (t19 + (1 : Int))) * k_2) ≤ (1024 : Int))))) && ((!decide (t1041 = Er.ok)) || (decide ((t1040.length : Int) = (((2 : Int) * (t19 + (1 : Int))) * k_2))))) ∧ w6 = w') ?_ (fun hQ => ?_)
                    · rintro _ _ ⟨q6, rfl, rfl, rfl⟩
                      refine WL.y rfl (Yld.pure tab_ok rfl) ?_
                      refine WL.nil (WX.then_normal ?_)
                      refine WC.ret ?_
                      exact WX.ret1 rfl rfl ⟨gr6, (ok && ((decide (t1041 = Er.ok)) == (decide ((((2 : Int) * (t19 + (1 : Int))) * k_2) ≤ (1024 : Int))))) && ((!decide (t1041 = Er.ok)) || (decide ((t1040.length : Int) = (((2 : Int) * (t19 + (1 : Int))) * k_2)))), rfl, H⟩
                    · clear H
                      rcases Bool.eq_false_or_eq_true (ok && ((decide (t1041 = Er.ok)) == (decide ((((2 : Int) * (t19 + (1 : Int))) * k_2) ≤ (1024 : Int))))) with b7 | b7
                      · refine WL.gyes rfl rfl (okb b7) rfl (Yld.pure tab_ok rfl) ?_
                        refine WL.gyes rfl rfl (okb b7) rfl (Yld.errneq Tryd.underlying29 ht1041 rfl) ?_
                        refine WL.gyes rfl rfl (okb b7) rfl (Yld.pure tab_ok rfl) ?_
                        rcases Bool.eq_false_or_eq_true (!decide (t1041 = Er.ok)) with b8 | b8
                        · refine WL.gno rfl rfl (okb b8) rfl ?_
                          refine WL.gno rfl rfl (okb b8) rfl ?_
                          refine WL.gno rfl rfl (okb b8) rfl ?_
                          refine WL.gno rfl rfl (okb b8) rfl ?_
                          refine WL.gno rfl rfl (okb b8) rfl ?_
                          refine WL.gno rfl rfl (okb b8) rfl ?_
                          refine WL.gno rfl rfl (okb b8) rfl ?_
                          refine WL.gyes rfl rfl (okb b7) rfl (Yld.pickT (okb b8) rfl) ?_
                          refine WL.y rfl (Yld.pickT (okb b7) rfl) ?_
                          exact WL.weaken (by repeat (first | exact Sub.nil | refine Sub.cons rfl ?_)) (hQ _ _ ⟨true, rfl, by rw [b7, b8] <;> rfl, rfl⟩)
                        · refine WL.gyes rfl rfl (okb b8) rfl (Yld.pure tab_ok rfl) ?_
                          refine WL.gyes rfl rfl (okb b8) rfl (Yld.pure tab_ok rfl) ?_
                          refine WL.gyes rfl rfl (okb b8) rfl (Yld.pure tab_ok rfl) ?_
                          refine WL.gyes rfl rfl (okb b8) rfl (Yld.mul rfl rfl (h14 b7 b8)) ?_
                          refine WL.gyes rfl rfl (okb b8) rfl (Yld.pure tab_ok rfl) ?_
                          refine WL.gyes rfl rfl (okb b8) rfl (Yld.mul rfl rfl (h15 b7 b8)) ?_
                          refine WL.gyes rfl rfl (okb b8) rfl (Yld.pure tab_ok rfl) ?_
                          refine WL.gyes rfl rfl (okb b7) rfl (Yld.pickF (okb b8) rfl) ?_
                          refine WL.y rfl (Yld.pickT (okb b7) rfl) ?_
                          exact WL.weaken (by repeat (first | exact Sub.nil | refine Sub.cons rfl ?_)) (hQ _ _ ⟨decide ((t1040.length : Int) = (((2 : Int) * (t19 + (1 : Int))) * k_2)), rfl, by rw [b7, b8] <;> rfl, rfl⟩)
                      · refine WL.gno rfl rfl (okb b7) rfl ?_
                        refine WL.gno rfl rfl (okb b7) rfl ?_
                        refine WL.gno rfl rfl (okb b7) rfl ?_
                        refine WL.gun rfl rfl rfl rfl ?_
                        refine WL.gun rfl rfl rfl rfl ?_
                        refine WL.gun rfl rfl rfl rfl ?_
                        refine WL.gun rfl rfl rfl rfl ?_
                        refine WL.gun rfl rfl rfl rfl ?_
                        refine WL.gun rfl rfl rfl rfl ?_
                        refine WL.gun rfl rfl rfl rfl ?_
                        refine WL.gno rfl rfl (okb b7) rfl ?_
                        refine WL.y rfl (Yld.pickF (okb b7) rfl) ?_
                        exact WL.weaken (by repeat (first | exact Sub.nil | refine Sub.cons rfl ?_)) (hQ _ _ ⟨false, rfl, by rw [b7] <;> rfl, rfl⟩)
                  · clear H
                    rcases Bool.eq_false_or_eq_true (ok) with b9 | b9
                    · refine WL.gyes rfl rfl (okb b9) rfl (Yld.pure tab_ok rfl) ?_
                      refine WL.gyes rfl rfl (okb b9) rfl (Yld.erreql Tryd.underlying29 ht1041 rfl) ?_
                      refine WL.gyes rfl rfl (okb b9) rfl (Yld.pure tab_ok rfl) ?_
                      refine WL.gyes rfl rfl (okb b9) rfl (Yld.mul rfl rfl (h12 b9)) ?_
                      refine WL.gyes rfl rfl (okb b9) rfl (Yld.pure tab_ok rfl) ?_
                      refine WL.gyes rfl rfl (okb b9) rfl (Yld.mul rfl rfl (h13 b9)) ?_
                      refine WL.gyes rfl rfl (okb b9) rfl (Yld.pure tab_ok rfl) ?_
                      refine WL.gyes rfl rfl (okb b9) rfl (Yld.beql Tryd.underlying4 rfl rfl) ?_
                      refine WL.y rfl (Yld.pickT (okb b9) rfl) ?_
                      exact WL.weaken (by repeat (first | exact Sub.nil | refine Sub.cons rfl ?_)) (hQ _ _ ⟨(decide (t1041 = Er.ok)) == (decide ((((2 : Int) * (t19 + (1 : Int))) * k_2) ≤ (1024 : Int))), rfl, by rw [b9] <;> rfl, rfl⟩)
                    · refine WL.gno rfl rfl (okb b9) rfl ?_
                      refine WL.gno rfl rfl (okb b9) rfl ?_
                      refine WL.gno rfl rfl (okb b9) rfl ?_
                      refine WL.gno rfl rfl (okb b9) rfl ?_
                      refine WL.gno rfl rfl (okb b9) rfl ?_
                      refine WL.gno rfl rfl (okb b9) rfl ?_
                      refine WL.gno rfl rfl (okb b9) rfl ?_
                      refine WL.gno rfl rfl (okb b9) rfl ?_
                      refine WL.y rfl (Yld.pickF (okb b9) rfl) ?_
                      exact WL.weaken (by repeat (first | exact Sub.nil | refine Sub.cons rfl ?_)) (hQ _ _ ⟨false, rfl, by rw [b9] <;> rfl, rfl⟩)
              · clear H
                rcases Bool.eq_false_or_eq_true (!((decide (t741 = Er.ok)) == (decide ((((2 : Int) * (t19 + (1 : Int))) + ((t19 + (1 : Int)) * k_2)) ≤ (1024 : Int))))) with b10 | b10
                · refine WL.gno rfl rfl (okb b10) rfl ?_
                  refine WL.gno rfl rfl (okb b10) rfl ?_
                  refine WL.gno rfl rfl (okb b10) rfl ?_
                  refine WL.gun rfl rfl rfl rfl ?_
                  refine WL.gun rfl rfl rfl rfl ?_
                  refine WL.gun rfl rfl rfl rfl ?_
                  refine WL.gun rfl rfl rfl rfl ?_
                  refine WL.gun rfl rfl rfl rfl ?_
                  refine WL.gun rfl rfl rfl rfl ?_
                  refine WL.gun rfl rfl rfl rfl ?_
                  refine WL.gun rfl rfl rfl rfl ?_
                  refine WL.gun rfl rfl rfl rfl ?_
                  refine WL.gno rfl rfl (okb b10) rfl ?_
                  refine WL.y rfl (Yld.pickT (okb b10) rfl) ?_
                  exact WL.weaken (by repeat (first | exact Sub.nil | refine Sub.cons rfl ?_)) (hQ _ _ ⟨true, rfl, by rw [b10] <;> rfl, rfl⟩)
                · refine WL.gyes rfl rfl (okb b10) rfl (Yld.pure tab_ok rfl) ?_
                  refine WL.gyes rfl rfl (okb b10) rfl (Yld.erreql Tryd.underlying29 ht741 rfl) ?_
                  refine WL.gyes rfl rfl (okb b10) rfl (Yld.pure tab_ok rfl) ?_
                  rcases Bool.eq_false_or_eq_true (decide (t741 = Er.ok)) with b11 | b11
                  · refine WL.gyes rfl rfl (okb b11) rfl (Yld.pure tab_ok rfl) ?_
                    refine WL.gyes rfl rfl (okb b11) rfl (Yld.pure tab_ok rfl) ?_
                    refine WL.gyes rfl rfl (okb b11) rfl (Yld.pure tab_ok rfl) ?_
                    refine WL.gyes rfl rfl (okb b11) rfl (Yld.mul rfl rfl (h9 b10 b11)) ?_
                    refine WL.gyes rfl rfl (okb b11) rfl (Yld.pure tab_ok rfl) ?_
                    refine WL.gyes rfl rfl (okb b11) rfl (Yld.pure tab_ok rfl) ?_
                    refine WL.gyes rfl rfl (okb b11) rfl (Yld.mul rfl rfl (h10 b10 b11)) ?_
                    refine WL.gyes rfl rfl (okb b11) rfl (Yld.add rfl rfl (h11 b10 b11)) ?_
                    refine WL.gyes rfl rfl (okb b11) rfl (Yld.pure tab_ok rfl) ?_
                    refine WL.gyes rfl rfl (okb b10) rfl (Yld.pickT (okb b11) rfl) ?_
                    refine WL.y rfl (Yld.pickF (okb b10) rfl) ?_
                    exact WL.weaken (by repeat (first | exact Sub.nil | refine Sub.cons rfl ?_)) (hQ _ _ ⟨!decide ((t740.length : Int) = (((2 : Int) * (t19 + (1 : Int))) + ((t19 + (1 : Int)) * k_2))), rfl, by rw [b10, b11] <;> rfl, rfl⟩)
                  · refine WL.gno rfl rfl (okb b11) rfl ?_
                    refine WL.gno rfl rfl (okb b11) rfl ?_
                    refine WL.gno rfl rfl (okb b11) rfl ?_
                    refine WL.gno rfl rfl (okb b11) rfl ?_
                    refine WL.gno rfl rfl (okb b11) rfl ?_
                    refine WL.gno rfl rfl (okb b11) rfl ?_
                    refine WL.gno rfl rfl (okb b11) rfl ?_
                    refine WL.gno rfl rfl (okb b11) rfl ?_
                    refine WL.gno rfl rfl (okb b11) rfl ?_
                    refine WL.gyes rfl rfl (okb b10) rfl (Yld.pickF (okb b11) rfl) ?_
                    refine WL.y rfl (Yld.pickF (okb b10) rfl) ?_
                    exact WL.weaken (by repeat (first | exact Sub.nil | refine Sub.cons rfl ?_)) (hQ _ _ ⟨false, rfl, by rw [b10, b11] <;> rfl, rfl⟩)
        · clear hJ1
          rcases Bool.eq_false_or_eq_true ((decide (((t19 + (1 : Int)) * k_2) ≤ (1024 : Int))) && ((!decide (t331 = Er.ok)) || (!decide ((t330.length : Int) = ((t19 + (1 : Int)) * k_2))))) with b12 | b12
          · replace H := H.1 b12
            refine WL.gno rfl rfl (okb b12) rfl ?_
            refine WL.gno rfl rfl (okb b12) rfl ?_
            refine WL.gno rfl rfl (okb b12) rfl ?_
            refine WL.gun rfl rfl rfl rfl ?_
            refine WL.gun rfl rfl rfl rfl ?_
            refine WL.gun rfl rfl rfl rfl ?_
            refine WL.gno rfl rfl (okb b12) rfl ?_
            refine WL.y rfl (Yld.pickT (okb b12) rfl) ?_
            exact WL.weaken (by repeat (first | exact Sub.nil | refine Sub.cons rfl ?_)) (hQ _ _ ⟨true, rfl, H, gr2⟩)
          · replace H := H.2 b12
            refine WL.gyes rfl rfl (okb b12) rfl (Yld.pure tab_ok rfl) ?_
            refine WL.gyes rfl rfl (okb b12) rfl (Yld.pure tab_ok rfl) ?_
            refine WL.gyes rfl rfl (okb b12) rfl (Yld.pure tab_ok rfl) ?_
            rcases Bool.eq_false_or_eq_true (!decide (((t19 + (1 : Int)) * k_2) ≤ (1024 : Int))) with b13 | b13
            · replace H := H.1 b13
              refine WL.gyes rfl rfl (okb b13) rfl (Yld.pure tab_ok rfl) ?_
              refine WL.callw (wants_some rfl rfl (okb b13)) rfl rfl (W_smithysee_Is (hG.grown gr2) hS0 hS1 hS2 hS3 hS4 hS5 hS6 hS7 hS8 hS9 hS10 hS11 hS12 hS13 hS14 hS15 hS16 ht331 H) ?_
              rintro _ w7 ⟨hg6, t58, rfl, H⟩
              have gr7 := gr_trans gr2 hg6
              have k1 := ht331.grown hg6
              refine WL.gyes rfl rfl (okb b13) rfl (Yld.pure tab_ok rfl) ?_
              refine WL.gyes rfl rfl (okb b12) rfl (Yld.pickT (okb b13) rfl) ?_
              refine WL.y rfl (Yld.pickF (okb b12) rfl) ?_
              exact WL.weaken (by repeat (first | exact Sub.nil | refine Sub.cons rfl ?_)) (hQ _ _ ⟨!t58, rfl, H, gr7⟩)
            · replace H := H.2 b13
              refine WL.gno rfl rfl (okb b13) rfl ?_
              refine WL.gno rfl rfl (okb b13) rfl ?_
              refine WL.gno rfl rfl (okb b13) rfl ?_
              refine WL.gyes rfl rfl (okb b12) rfl (Yld.pickF (okb b13) rfl) ?_
              refine WL.y rfl (Yld.pickF (okb b12) rfl) ?_
              exact WL.weaken (by repeat (first | exact Sub.nil | refine Sub.cons rfl ?_)) (hQ _ _ ⟨false, rfl, H, gr2⟩)
      · clear H
        rcases Bool.eq_false_or_eq_true (decide (((t19 + (1 : Int)) * k_2) ≤ (1024 : Int))) with b14 | b14
        · refine WL.gyes rfl rfl (okb b14) rfl (Yld.pure tab_ok rfl) ?_
          refine WL.gyes rfl rfl (okb b14) rfl (Yld.errneq Tryd.underlying29 ht331 rfl) ?_
          refine WL.gyes rfl rfl (okb b14) rfl (Yld.pure tab_ok rfl) ?_
          rcases Bool.eq_false_or_eq_true (!decide (t331 = Er.ok)) with b15 | b15
          · refine WL.gno rfl rfl (okb b15) rfl ?_
            refine WL.gno rfl rfl (okb b15) rfl ?_
            refine WL.gno rfl rfl (okb b15) rfl ?_
            refine WL.gno rfl rfl (okb b15) rfl ?_
            refine WL.gno rfl rfl (okb b15) rfl ?_
            refine WL.gno rfl rfl (okb b15) rfl ?_
            refine WL.gyes rfl rfl (okb b14) rfl (Yld.pickT (okb b15) rfl) ?_
            refine WL.y rfl (Yld.pickT (okb b14) rfl) ?_
            exact WL.weaken (by repeat (first | exact Sub.nil | refine Sub.cons rfl ?_)) (hQ _ _ ⟨true, rfl, by rw [b14, b15] <;> rfl, rfl⟩)
          · refine WL.gyes rfl rfl (okb b15) rfl (Yld.pure tab_ok rfl) ?_
            refine WL.gyes rfl rfl (okb b15) rfl (Yld.pure tab_ok rfl) ?_
            refine WL.gyes rfl rfl (okb b15) rfl (Yld.pure tab_ok rfl) ?_
            refine WL.gyes rfl rfl (okb b15) rfl (Yld.pure tab_ok rfl) ?_
            refine WL.gyes rfl rfl (okb b15) rfl (Yld.mul rfl rfl (h5 b14 b15)) ?_
            refine WL.gyes rfl rfl (okb b15) rfl (Yld.pure tab_ok rfl) ?_
            refine WL.gyes rfl rfl (okb b14) rfl (Yld.pickF (okb b15) rfl) ?_
            refine WL.y rfl (Yld.pickT (okb b14) rfl) ?_
            exact WL.weaken (by repeat (first | exact Sub.nil | refine Sub.cons rfl ?_)) (hQ _ _ ⟨!decide ((t330.length : Int) = ((t19 + (1 : Int)) * k_2)), rfl, by rw [b14, b15] <;> rfl, rfl⟩)
        · refine WL.gno rfl rfl (okb b14) rfl ?_
          refine WL.gno rfl rfl (okb b14) rfl ?_
          refine WL.gno rfl rfl (okb b14) rfl ?_
          refine WL.gun rfl rfl rfl rfl ?_
          refine WL.gun rfl rfl rfl rfl ?_
          refine WL.gun rfl rfl rfl rfl ?_
          refine WL.gun rfl rfl rfl rfl ?_
          refine WL.gun rfl rfl rfl rfl ?_
          refine WL.gun rfl rfl rfl rfl ?_
          refine WL.gno rfl rfl (okb b14) rfl ?_
          refine WL.y rfl (Yld.pickF (okb b14) rfl) ?_
          exact WL.weaken (by repeat (first | exact Sub.nil | refine Sub.cons rfl ?_)) (hQ _ _ ⟨false, rfl, by rw [b14] <;> rfl, rfl⟩)

end Go.Proofs.YtjinkmipkfjblaaDoor

 /- smithysee.Is, plainly. -/
namespace Go.Proofs.YtjinkmipkfjblaaDoor
open Go Go.RowKit
def isB : Er → Int → Bool
  | .ok, c => decide (0 = c)
  | .e n, c => decide (101 + (n : Int) = c)
  | .at_ _ _, _ => false
theorem is_M {e : Er} {code : Int} {K : Bool → Prop} (h : K (isB e code)) : M_smithysee_Is e code K := by
  unfold M_smithysee_Is M_smithyref_Bare M_smithysee_Same M_smithysee_Fault M_smithyref_None M_smithyref_SameFault M_smithysee_placed M_smithysee_sentinel M_smithyref_Bare M_smithyref_Placed M_smithyref_None
  cases e with
  | ok => refine ⟨fun _ => ?_, fun h2 => absurd rfl h2⟩; exact (congrArg K (show isB .ok code = _ by simp [isB])).mp h
  | e n => refine ⟨fun h2 => (by cases h2), fun _ => ⟨fun p m h2 => (by cases h2), fun _ => ?_⟩⟩; exact (congrArg K (show isB (.e n) code = _ by rw [Bool.eq_iff_iff]; simp [isB, sentV]; exact decide_eq_true_iff.symm)).mp h
  | at_ p n =>
    refine ⟨fun h2 => (by cases h2), fun _ => ⟨fun p' m h2 => ?_, fun h2 => absurd rfl (h2 p n)⟩⟩
    cases h2
    refine ⟨fun h2 => (by simp at h2), fun _ => ⟨fun h2 => (by simp only [sentV] at h2; omega), fun _ => ?_⟩⟩
    exact (congrArg K (show isB (.at_ p n) code = _ by simp [isB])).mp h
end Go.Proofs.YtjinkmipkfjblaaDoor


 /- The chapter's pieces, plainly: splitting, replacing, counting. -/
namespace Go.Proofs.YtjinkmipkfjblaaDoor
open Go Go.RowKit
theorem getD_memB {l : List (List UInt8)} {k : Nat} (h : k < l.length) : l.getD k [] ∈ l := by
  simp [List.getD, h]
theorem occ_isB (s sub : List UInt8) (i : Nat) : Lib.occAt s sub i = decide ((s.drop i).take sub.length = sub) := by
  unfold Lib.occAt
  rw [Bool.eq_iff_iff, List.isPrefixOf_iff_prefix, decide_eq_true_eq, List.prefix_iff_eq_take, eq_comm]
theorem index_selfB (a t : List UInt8) (ha : a ≠ []) : Lib.index (a ++ t) a = 0 := by
  cases a with
  | nil => exact absurd rfl ha
  | cons c a =>
    rw [List.cons_append, Lib.index, if_pos]
    rw [← List.cons_append, List.isPrefixOf_iff_prefix]
    exact List.prefix_append _ _
theorem cnt_le {a : List UInt8} (ha : a ≠ []) (s : List UInt8) : Lib.count s a * a.length ≤ s.length := by
  generalize hk : Lib.count s a = k
  induction k generalizing s with
  | zero => omega
  | succ k ih =>
    obtain ⟨i, hi⟩ := Lib.index_of_count (s := s) (old := a) (by omega)
    have h1 := Lib.count_hit ha hi
    have h2 := Lib.index_room s a (by omega)
    have h3 := ih (s.drop (i + a.length)) (by omega)
    rw [List.length_drop] at h3
    rw [Nat.add_mul]
    omega
/-! replacing -/
theorem rpl_hit {a : List UInt8} (ha : a ≠ []) (b : List UInt8) (k : Nat) (t : List UInt8) : Lib.replaceK a b (k + 1) (a ++ t) = b ++ Lib.replaceK a b k t := by
  rw [Lib.replaceK_hit a b k _ 0 (index_selfB a t ha)]
  simp
theorem rpl_len {a : List UInt8} (ha : a ≠ []) (b : List UInt8) : ∀ (k : Nat) (s : List UInt8), k ≤ Lib.count s a → (Lib.replaceK a b k s).length + k * a.length = s.length + k * b.length := by
  intro k
  induction k with
  | zero => intro s _; simp [Lib.replaceK]
  | succ k ih =>
    intro s hk
    obtain ⟨i, hi⟩ := Lib.index_of_count (s := s) (old := a) (by omega)
    have h1 := Lib.count_hit ha hi
    have h2 := Lib.index_room s a (by omega)
    have h3 := ih (s.drop (i + a.length)) (by omega)
    rw [List.length_drop] at h3
    rw [Lib.replaceK_hit a b k s i hi]
    simp only [List.length_append, List.length_take, Nat.add_mul]
    omega
theorem rpl_same (a : List UInt8) (ha : a ≠ []) : ∀ (k : Nat) (s : List UInt8), Lib.replaceK a a k s = s := by
  intro k
  induction k with
  | zero => intro s; rfl
  | succ k ih =>
    intro s
    by_cases hm : Lib.index s a = -1
    · rw [Lib.replaceK, if_pos (by rw [hm]; rfl)]
    · have hge := Lib.index_ge s a
      obtain ⟨i, hi⟩ : ∃ j : Nat, Lib.index s a = j := ⟨(Lib.index s a).toNat, by omega⟩
      rw [Lib.replaceK_hit a a k s i hi, ih]
      have ho : Lib.occAt s a i = true := by
        rcases Lib.index_spec s a with ⟨h2, _⟩ | ⟨j, h2, _, h4, _⟩
        · omega
        · rw [show i = j by omega]; exact h4
      rw [occ_isB, decide_eq_true_eq] at ho
      conv => lhs; lhs; rhs; rw [← ho]
      rw [List.append_assoc, ← List.drop_drop, List.take_append_drop, List.take_append_drop]
theorem replace_isB {s a b : List UInt8} (ha : a ≠ []) {n : Int} (hn : 0 ≤ n) (hc : n ≤ Lib.count s a) : Lib.replace s a b n = Lib.replaceK a b n.toNat s := by
  by_cases he : a = b
  · subst he
    rw [rpl_same a ha]
    unfold Lib.replace
    simp
  · unfold Lib.replace Lib.replaceNum
    rw [if_neg (by simpa using he), if_neg (by omega)]
theorem join_take {l : List (List UInt8)} {o : List UInt8} {i : Nat} (h : i < l.length) : Lib.join (l.take (i + 1)) o = Lib.join (l.take i) o ++ (if i = 0 then [] else o) ++ l.getD i [] := by
  cases l with
  | nil => simp at h
  | cons x l =>
    cases i with
    | zero => simp [Lib.join_one, Lib.join_nil]
    | succ i =>
      rw [List.take_succ_cons, List.take_succ_cons, Lib.join_cons, Lib.join_cons, Lib.joinTail_take_succ o l i (l.getD i []) (by have h' : i < l.length := (by simpa using h); simp [List.getD, h'])]
      simp
theorem join_le {l : List (List UInt8)} {o : List UInt8} : ∀ {i j : Nat}, i ≤ j → j ≤ l.length → (Lib.join (l.take i) o).length ≤ (Lib.join (l.take j) o).length := by
  intro i j hij hj
  induction j with
  | zero => rw [show i = 0 by omega]; exact Nat.le_refl _
  | succ j ih =>
    by_cases e : i = j + 1
    · rw [e]; exact Nat.le_refl _
    · have := ih (by omega) (by omega)
      rw [join_take (by omega)]
      simp only [List.length_append]
      omega
end Go.Proofs.YtjinkmipkfjblaaDoor


 /- The chapter's splitting, joining, replacing and repeating, plainly: the program's and the reference's. -/
namespace Go.Proofs.YtjinkmipkfjblaaDoor
open Go Go.RowKit
theorem drop_isB {s : List UInt8} {i : Nat} (h : i < s.length) : s.drop i = s.getD i 0 :: s.drop (i + 1) := by
  rw [List.drop_eq_getElem_cons h]; simp [List.getD, h]
/-- how many are taken -/
def numP (most : Int) (c : Nat) : Nat := if most < 0 then c else min most.toNat c
theorem num_M {most : Int} {c : Nat} {J : Int → Prop} (h : J (numP most c : Nat)) : ((0 : Int) ≤ most → J (if most < (c : Int) then most else (c : Int))) ∧ (¬ ((0 : Int) ≤ most) → J (c : Int)) := by
  unfold numP at h
  refine ⟨fun e => ?_, fun e => ?_⟩
  · rw [if_neg (by omega)] at h
    refine (congrArg J ?_).mp h
    split <;> omega
  · rw [if_pos (by omega)] at h; exact h
theorem numP_le (most : Int) (c : Nat) : numP most c ≤ c := by unfold numP; split <;> omega
def splP (s a : List UInt8) (most : Int) : List (List UInt8) × Er := if a = [] then ([], .e 3) else if 1024 ≤ numP most (Lib.count s a) then ([], .e 7) else (Lib.splitK a 0 (numP most (Lib.count s a)) s, .ok)
theorem split_M {s a : List UInt8} {most : Int} {K : List (List UInt8) → Er → Prop} (hs : s.length ≤ 1000000) (h : K (splP s a most).1 (splP s a most).2) : M_str_Split s a most K := by
  unfold splP at h
  refine ⟨fun e => by rw [if_pos e] at h; exact h, fun e => ⟨by omega, List.length_pos_iff.2 e, ?_⟩⟩
  rw [if_neg e] at h
  change ∃ J1 : Int → Prop, _
  have hc : Lib.countB ⟨⟨s⟩⟩ ⟨⟨a⟩⟩ = Lib.count s a := rfl
  have hle := cnt_le e s
  have hpos := List.length_pos_iff.2 e
  have hle2 := Nat.le_mul_of_pos_right (Lib.count s a) hpos
  have hn := numP_le most (Lib.count s a)
  refine ⟨fun x => x = (numP most (Lib.count s a) : Nat), num_M (J := fun x => x = (numP most (Lib.count s a) : Nat)) rfl, ?_⟩
  rintro _ rfl
  refine ⟨fun e2 => by rw [if_pos (by omega)] at h; exact h, fun e2 => ?_⟩
  rw [if_neg (by omega)] at h
  refine ⟨by simp only [In]; omega, by omega, hpos, by omega, by omega, ?_⟩
  rw [show splitN a s ((numP most (Lib.count s a) : Int) + 1).toNat = Lib.splitK a 0 (numP most (Lib.count s a)) s by
    unfold splitN
    rw [show min ((numP most (Lib.count s a) : Int) + 1).toNat (s.length + 1) - 1 = numP most (Lib.count s a) by omega]]
  exact h
theorem isB_e7 : isB (.e 7) 108 = true := by decide
def joinP (o : List UInt8) (l : List (List UInt8)) : List UInt8 × Er := if 1024 < (Lib.join l o).length then ([], .e 7) else (Lib.join l o, .ok)
theorem join_M {o : List UInt8} {l : List (List UInt8)} {K : List UInt8 → Er → Prop} (hl : l.length ≤ 1000000) (ho : o.length ≤ 1000000) (hx : ∀ x ∈ l, x.length ≤ 1000000) (h : K (joinP o l).1 (joinP o l).2) : M_str_Join o l K := by
  unfold joinP at h
  intro _
  refine ⟨fun n i => 0 ≤ i ∧ i ≤ l.length ∧ n = ((Lib.join (l.take i.toNat) o).length : Nat) ∧ n ≤ 1024, fun _ i => l.length - i.toNat, ⟨by omega, by omega, by simp [Lib.join_nil], by omega⟩, fun n i ⟨a0, a1, a2, a3⟩ => ⟨fun hlt => ?_, fun hge => ?_⟩⟩
  · have hj := congrArg List.length (join_take (l := l) (o := o) (i := i.toNat) (by omega))
    have hxi := hx _ (getD_memB (l := l) (k := i.toNat) (by omega))
    simp only [List.length_append] at hj
    refine ⟨by omega, fun n2 => n2 = n + (if i.toNat = 0 then ([] : List UInt8) else o).length, ⟨fun e => ⟨by simp only [In]; omega, by rw [if_neg (by omega)]⟩, fun e => by rw [if_pos (by omega)]; simp⟩, ?_⟩
    rintro _ rfl
    have ho2 : (if i.toNat = 0 then ([] : List UInt8) else o).length ≤ 1000000 := by split <;> simp [ho]
    refine ⟨by simp only [In]; omega, fun e => ?_, fun e => ⟨by simp only [In]; omega, ⟨by omega, by omega, ?_, by omega⟩, by dsimp only; omega⟩⟩
    · have := join_le (l := l) (o := o) (i := i.toNat + 1) (j := l.length) (by omega) (Nat.le_refl _)
      rw [List.take_length] at this
      rw [if_pos (by omega)] at h; exact h
    · rw [show (i + 1).toNat = i.toNat + 1 by omega]; omega
  · rw [show i.toNat = l.length by omega, List.take_length] at a2
    rw [if_neg (by omega)] at h
    exact ⟨by omega, by omega, h⟩
/-! replacing -/
def insK (b : List UInt8) : Nat → List UInt8 → List UInt8
  | 0, s => s
  | _ + 1, [] => b
  | k + 1, c :: s => b ++ c :: insK b k s
theorem insK_nil (b : List UInt8) (k : Nat) : insK b k [] = if 0 < k then b else [] := by cases k <;> simp [insK]
theorem insK_cons (b : List UInt8) (k : Nat) (c : UInt8) (s : List UInt8) : insK b k (c :: s) = (if 0 < k then b else []) ++ c :: insK b (k - 1) s := by cases k <;> simp [insK]
theorem insK_len (b : List UInt8) : ∀ (k : Nat) (s : List UInt8), k ≤ s.length + 1 → (insK b k s).length = s.length + k * b.length
  | 0, s, _ => by simp [insK]
  | k + 1, [], h => by
    have : k = 0 := by simpa using h
    subst this; simp [insK]
  | k + 1, c :: s, h => by
    have ih := insK_len b k s (by simpa using h)
    simp only [insK, List.length_append, List.length_cons, ih, Nat.add_mul]
    omega
def cntP (s a : List UInt8) : Nat := if a = [] then s.length + 1 else Lib.count s a
theorem count_M {s a : List UInt8} {K : Int → Prop} (hs : s.length ≤ 1000000) (h : K (cntP s a : Nat)) : M_str_Count s a K := by
  unfold cntP at h
  refine ⟨fun e => ?_, fun e => ?_⟩
  · rw [if_pos e] at h
    exact ⟨by simp only [In]; omega, h⟩
  · rw [if_neg e] at h
    exact ⟨by omega, List.length_pos_iff.2 e, h⟩
def rplT (s a b : List UInt8) (m : Nat) : List UInt8 := if a = [] then insK b m s else Lib.replaceK a b m s
def rplP (s a b : List UInt8) (most : Int) : List UInt8 × Er := if 1024 < (rplT s a b (numP most (cntP s a))).length then ([], .e 7) else (rplT s a b (numP most (cntP s a)), .ok)
theorem cntP_le (s a : List UInt8) : cntP s a * a.length ≤ s.length ∧ cntP s a ≤ s.length + 1 := by
  unfold cntP
  split
  · rename_i e; subst e; simp
  · rename_i e
    have h := cnt_le e s
    have h2 := Nat.le_mul_of_pos_right (Lib.count s a) (List.length_pos_iff.2 e)
    exact ⟨h, by omega⟩
theorem rplT_len (s a b : List UInt8) {m : Nat} (h : m ≤ cntP s a) : (rplT s a b m).length + m * a.length = s.length + m * b.length := by
  unfold rplT cntP at *
  split
  · rename_i e
    subst e
    rw [if_pos rfl] at h
    rw [insK_len b m s h]; simp
  · rename_i e
    rw [if_neg e] at h
    exact rpl_len e b m s h
theorem room_iff {r m l : Nat} (hr : r ≤ 1024) : (decide ((0 : Int) < (l : Int)) && decide (((1024 : Int) - (r : Int)) / (l : Int) < (m : Int))) = decide (1024 < r + m * l) := by
  by_cases h0 : l = 0
  · subst h0; simp; omega
  · rw [decide_eq_true (show (0 : Int) < (l : Int) by omega), Bool.true_and]
    rw [Bool.eq_iff_iff, decide_eq_true_eq, decide_eq_true_eq, Int.ediv_lt_iff_lt_mul (by omega)]
    rw [show ((m : Int) * (l : Int)) = ((m * l : Nat) : Int) by simp]
    omega
theorem replace_M {s a b : List UInt8} {most : Int} {K : List UInt8 → Er → Prop} (hs : s.length ≤ 1000000) (ha : a.length ≤ 1000000) (hb : b.length ≤ 1000000) (h : K (rplP s a b most).1 (rplP s a b most).2) : M_str_Replace s a b most K := by
  unfold rplP at h
  refine count_M hs ?_
  have hn := numP_le most (cntP s a)
  have hc := cntP_le s a
  have hlen := rplT_len s a b hn
  refine ⟨fun x => x = (numP most (cntP s a) : Nat), num_M (J := fun x => x = (numP most (cntP s a) : Nat)) rfl, ?_⟩
  rintro _ rfl
  generalize numP most (cntP s a) = m at *
  have hma : m * a.length ≤ s.length := Nat.le_trans (Nat.mul_le_mul_right _ hn) hc.1
  have hmb : m * b.length ≤ 1000001 * 1000000 := Nat.mul_le_mul (by omega) hb
  have e1 : ((m : Int) * (a.length : Int)) = ((m * a.length : Nat) : Int) := by simp
  obtain ⟨r, hr⟩ : ∃ r : Nat, s.length = r + m * a.length := ⟨s.length - m * a.length, by omega⟩
  have e2 : (s.length : Int) - ((m : Int) * (a.length : Int)) = (r : Int) := by rw [e1]; omega
  rw [e2, e1]
  generalize hT : rplT s a b m = T at *
  have hTl : T.length = r + m * b.length := by omega
  have hma2 : m * a.length ≤ 1000000 := by omega
  have hr2 : r ≤ 1000000 := by omega
  generalize m * a.length = ma at *
  refine ⟨by simp only [In]; omega, by simp only [In]; omega, fun _ _ => by simp only [In]; omega, fun _ _ => by simp only [In]; omega, fun _ _ => by simp only [In]; omega, fun f1 f2 => ?_, ?_⟩
  · rw [decide_eq_false_iff_not] at f1
    rw [decide_eq_true_eq] at f2
    exact ⟨by omega, f2, by simp only [In]; omega⟩
  have hq : (decide ((1024 : Int) < (r : Int)) || ((decide ((0 : Int) < (b.length : Int))) && decide (((1024 : Int) - (r : Int)) / (b.length : Int) < (m : Int)))) = decide (1024 < T.length) := by
    rw [hTl]
    by_cases h9 : r ≤ 1024
    · rw [decide_eq_false (show ¬ (1024 : Int) < (r : Int) by omega), Bool.false_or, room_iff h9]
    · rw [decide_eq_true (show (1024 : Int) < (r : Int) by omega), Bool.true_or, decide_eq_true (by omega)]
  rw [hq]
  refine ⟨fun f => ?_, fun f => ?_⟩
  · rw [decide_eq_true_eq] at f
    rw [if_pos f] at h; exact h
  rw [decide_eq_false_iff_not] at f
  rw [if_neg f] at h
  refine ⟨fun e => ?_, fun e => ?_⟩
  · refine ⟨by omega, List.length_pos_iff.2 e, ?_, ?_⟩
    · have h1 : Lib.countB ⟨⟨s⟩⟩ ⟨⟨a⟩⟩ ≤ 1000001 := by
        have : Lib.countB ⟨⟨s⟩⟩ ⟨⟨a⟩⟩ = cntP s a := by unfold cntP; rw [if_neg e]
        omega
      have h2 : Lib.countB ⟨⟨s⟩⟩ ⟨⟨a⟩⟩ * b.length ≤ 1000001 * 1000000 := Nat.mul_le_mul h1 hb
      omega
    · rw [replace_isB e (by omega) (by unfold cntP at hn; rw [if_neg e] at hn; omega), Int.toNat_natCast]
      rw [show Lib.replaceK a b m s = T by rw [← hT]; unfold rplT; rw [if_neg e]]
      exact h
  · subst e
    have hT2 : T = insK b m s := by rw [← hT]; unfold rplT; rw [if_pos rfl]
    have hn2 : m ≤ s.length + 1 := by unfold cntP at hn; rw [if_pos rfl] at hn; exact hn
    refine ⟨fun i b1 => (0 ≤ i ∧ i ≤ s.length ∧ T = b1 ++ insK b (m - i.toNat) (s.drop i.toNat)) ∨ (i = s.length + 1 ∧ b1 = T), fun i _ => s.length + 1 - i.toNat, .inl ⟨by omega, by omega, by simp [hT2]⟩, fun i b1 hI => ⟨fun hlt => ?_, fun hge => ?_⟩⟩
    · rcases hI with ⟨a0, a1, a2⟩ | ⟨a0, _⟩
      rotate_left
      · omega
      have hl2 := congrArg List.length a2
      rw [List.length_append] at hl2
      by_cases hi : i.toNat < s.length
      · rw [drop_isB hi, insK_cons] at a2
        refine ⟨fun x => T = x ++ insK b (m - i.toNat - 1) (s.drop (i.toNat + 1)) , ⟨fun x => T = x ++ s.getD i.toNat 0 :: insK b (m - i.toNat - 1) (s.drop (i.toNat + 1)), ⟨fun f1 => ⟨by omega, ?_⟩, fun f1 => ?_⟩, fun x hx => ⟨fun _ => ⟨by omega, ?_, ?_⟩, fun f => absurd (by omega) f⟩⟩, fun x hx => ⟨by simp only [In]; omega, ⟨.inl ⟨by omega, by omega, ?_⟩, by dsimp only; omega⟩⟩⟩
        · rw [if_pos (by omega)] at a2
          rw [a2]; simp
        · rw [if_neg (by omega)] at a2
          rw [a2]; simp
        · have := congrArg List.length hx
          rw [List.length_append] at this
          simp only [List.length_singleton]; omega
        · rw [hx]; simp
        · rw [hx, show (i + 1).toNat = i.toNat + 1 by omega, show m - (i.toNat + 1) = m - i.toNat - 1 by omega]
      · rw [List.drop_eq_nil_of_le (by omega), insK_nil] at a2
        refine ⟨fun x => x = T, ⟨fun x => x = T, ⟨fun f1 => ⟨by omega, ?_⟩, fun f1 => ?_⟩, fun x hx => ⟨fun f => absurd f (by omega), fun f => hx⟩⟩, fun x hx => ⟨by simp only [In]; omega, ⟨.inr ⟨by omega, hx⟩, by dsimp only; omega⟩⟩⟩
        · rw [if_pos (by omega)] at a2
          exact a2.symm
        · rw [if_neg (by omega)] at a2
          rw [a2]; simp
    · rcases hI with ⟨a0, a1, a2⟩ | ⟨a0, a1⟩
      · exact absurd a1 hge
      · rw [a1]; exact h
/-! repeating -/
def repP (s : List UInt8) (n : Int) : List UInt8 × Er := if n < 1 ∨ s = [] then ([], .ok) else if (1024 : Int) / (s.length : Int) < n then ([], .e 7) else (Lib.repeatL s n.toNat, .ok)
theorem repP_room {s : List UInt8} {n : Int} (hn : 1 ≤ n) (hs : s ≠ []) : ((1024 : Int) / (s.length : Int) < n) ↔ 1024 < n.toNat * s.length := by
  have hpos := List.length_pos_iff.2 hs
  rw [Int.ediv_lt_iff_lt_mul (by omega)]
  obtain ⟨k, rfl⟩ : ∃ k : Nat, n = (k : Int) := ⟨n.toNat, by omega⟩
  rw [show ((k : Int) * (s.length : Int)) = ((k * s.length : Nat) : Int) by simp, Int.toNat_natCast]
  omega
theorem repeat_M {s : List UInt8} {n : Int} {K : List UInt8 → Er → Prop} (hs : s.length ≤ 1000000) (hn : n ≤ 9223372036854775807) (h : K (repP s n).1 (repP s n).2) : M_str_Repeat s n K := by
  unfold repP at h
  have hq : (decide (n < (1 : Int)) || decide (s = ([] : List UInt8))) = decide (n < 1 ∨ s = []) := by rw [Bool.decide_or]
  unfold M_str_Repeat
  rw [hq]
  refine ⟨fun f => ?_, fun f => ?_⟩
  · rw [decide_eq_true_eq] at f
    rw [if_pos f] at h; exact h
  · rw [decide_eq_false_iff_not] at f
    rw [if_neg f] at h
    have hne : s ≠ [] := fun e => f (.inr e)
    have hn1 : 1 ≤ n := by have : ¬ n < 1 := fun e => f (.inl e); omega
    have hpos := List.length_pos_iff.2 hne
    refine ⟨⟨by omega, by omega, by simp only [In]; omega⟩, fun e => by rw [if_pos e] at h; exact h, fun e => ?_⟩
    rw [if_neg e] at h
    rw [repP_room hn1 hne] at e
    exact ⟨by omega, hn, by rw [Nat.mul_comm]; omega, h⟩
end Go.Proofs.YtjinkmipkfjblaaDoor


 /- The chapter's other tools, plainly: words, strips, cuts, finding, turning, digits. -/
namespace Go.Proofs.YtjinkmipkfjblaaDoor
open Go Go.RowKit
/-! bounds and finding -/
def bndP (n i : Int) : Int := if i < 0 then (if i < -n then 0 else n + i) else (if n < i then n else i)
theorem bound_MB {n i : Int} {K : Int → Prop} (hn : 0 ≤ n) (hn2 : n ≤ 1000000) (hi : In .i64 i) (h : K (bndP n i)) : M_str_bound n i K := by
  simp only [In] at hi
  refine ⟨fun j => j = if i < 0 then i + n else i, ⟨fun e => ⟨by simp only [In]; omega, by rw [if_pos e]⟩, fun e => by rw [if_neg e]⟩, ?_⟩
  rintro _ rfl
  refine (congrArg K ?_).mp h
  unfold bndP
  repeat' split
  all_goals omega
def cutA (n i : Int) (has : Bool) : Int := if has then bndP n i else 0
def cutB (n j : Int) (until_ : Bool) : Int := if until_ then bndP n j else n
def cutP (n i j : Int) (has until_ : Bool) : Int × Int := (cutA n i has, if cutA n i has < cutB n j until_ then cutB n j until_ else cutA n i has)
theorem cut_M {n i j : Int} {has until_ : Bool} {K : Int → Int → Prop} (hn : 0 ≤ n) (hn2 : n ≤ 1000000) (hi : In .i64 i) (hj : In .i64 j) (h : K (cutP n i j has until_).1 (cutP n i j has until_).2) : M_str_Cut n i j has until_ K := by
  have e0 : (if n < (0 : Int) then (0 : Int) else n) = n := if_neg (by omega)
  unfold M_str_Cut
  rw [e0]
  refine ⟨fun x => x = if has then i else 0, ⟨fun e => ?_, fun e => ?_⟩, ?_⟩
  · rw [Bool.not_eq_true'] at e; rw [e]; rfl
  · rw [Bool.not_eq_false'] at e; rw [e]; rfl
  rintro _ rfl
  refine ⟨fun x => x = if until_ then j else n, ⟨fun e => ?_, fun e => ?_⟩, ?_⟩
  · rw [Bool.not_eq_true'] at e; rw [e]; rfl
  · rw [Bool.not_eq_false'] at e; rw [e]; rfl
  rintro _ rfl
  have e1 : bndP n (if has = true then i else 0) = cutA n i has := by unfold cutA; cases has with
    | true => rfl
    | false => unfold bndP; simp; omega
  have e2 : bndP n (if until_ = true then j else n) = cutB n j until_ := by unfold cutB; cases until_ with
    | true => rfl
    | false => unfold bndP; simp; omega
  refine bound_MB hn hn2 ?_ (bound_MB hn hn2 ?_ ?_)
  · split
    · exact hi
    · simp only [In]; omega
  · split
    · exact hj
    · simp only [In]; omega
  · rw [e1, e2]; exact h
/-! digits -/
def isDg (c : UInt8) : Bool := !(decide (((c.toNat : Int)) < (48 : Int)) || decide ((57 : Int) < (c.toNat : Int)))
def digitsP (s : List UInt8) : Bool := s.all isDg && !decide (s = [])
theorem digits_loop {s : List UInt8} {K : Bool → Prop} (hs : s.length ≤ 1000000) (h : K (digitsP s)) : Lp1 (fun (i : Int) k_1 => ((i < (s.length : Int) → (0 ≤ i ∧ i < s.length) ∧
 ((decide (((s.getD i.toNat 0).toNat : Int) < (48 : Int))) = false → (0 ≤ i ∧ i < s.length)) ∧
 ((((decide (((s.getD i.toNat 0).toNat : Int) < (48 : Int))) || (decide ((57 : Int) < ((s.getD i.toNat 0).toNat : Int)))) = true → K false) ∧
 (((decide (((s.getD i.toNat 0).toNat : Int) < (48 : Int))) || (decide ((57 : Int) < ((s.getD i.toNat 0).toNat : Int)))) = false → (In .i64 (i + (1 : Int))) ∧
 k_1 (i + (1 : Int))))) ∧
 (¬ (i < (s.length : Int)) → K (!decide (s = ([] : List UInt8)))))) (0 : Int) := by
  refine ⟨fun i => 0 ≤ i ∧ i ≤ s.length ∧ ∀ j, j < i.toNat → isDg (s.getD j 0) = true, fun i => s.length - i.toNat, ⟨by omega, by omega, fun j hj => by simp at hj⟩, fun i ⟨a0, a1, a2⟩ => ⟨fun hlt => ⟨by omega, fun _ => by omega, fun f => ?_, fun f => ⟨by simp only [In]; omega, ⟨by omega, by omega, fun j hj => ?_⟩, by dsimp only; omega⟩⟩, fun hge => ?_⟩⟩
  · have : digitsP s = false := by
      unfold digitsP
      rw [Bool.and_eq_false_iff]
      refine .inl ?_
      rw [List.all_eq_false]
      refine ⟨s.getD i.toNat 0, by simp [List.getD, show i.toNat < s.length by omega], ?_⟩
      unfold isDg
      rw [f]; decide
    rw [this] at h; exact h
  · by_cases e : j = i.toNat
    · rw [e]; unfold isDg; rw [f]; rfl
    · exact a2 j (by omega)
  · have : s.all isDg = true := by
      rw [List.all_eq_true]
      intro x hx
      obtain ⟨j, hj, rfl⟩ := List.getElem_of_mem hx
      have := a2 j (by omega)
      simpa [List.getD, hj] using this
    unfold digitsP at h
    rw [this, Bool.true_and] at h; exact h
theorem digits_M {s : List UInt8} {K : Bool → Prop} (hs : s.length ≤ 1000000) (h : K (digitsP s)) : M_str_IsDigits s K := digits_loop hs h
end Go.Proofs.YtjinkmipkfjblaaDoor


 /- The chapter's first look, and three laws, plainly: StrCuts, StrParts, StrRooms. -/
namespace Go.Proofs.YtjinkmipkfjblaaDoor
open Go Go.RowKit
theorem sameT_M {a b : List (List UInt8)} {K : Bool → Prop} (ha : a.length ≤ 1000000) (_ : b.length ≤ 1000000) (h : K (decide (a = b))) : M_smithyref_SameTexts a b K := by
  intro _ _
  refine ⟨fun e => ?_, fun e => ?_⟩
  · rw [decide_eq_false (fun e2 => e (by rw [e2]))] at h; exact h
  · have e' : a.length = b.length := by omega
    refine ⟨fun i => 0 ≤ i ∧ i ≤ a.length ∧ ∀ j, j < i.toNat → a.getD j [] = b.getD j [], fun i => a.length - i.toNat, ⟨by omega, by omega, fun j hj => by simp at hj⟩, fun i ⟨a0, a1, a2⟩ => ⟨fun hlt => ⟨by omega, by omega, fun f => ?_, fun f => ⟨by simp only [In]; omega, ⟨by omega, by omega, fun j hj => ?_⟩, by dsimp only; omega⟩⟩, fun hge => ?_⟩⟩
    · rw [decide_eq_false (fun e2 => f (by rw [e2]))] at h; exact h
    · by_cases e3 : j = i.toNat
      · rw [e3]; exact f
      · exact a2 j (by omega)
    · have : a = b := by
        apply List.ext_getElem e'
        intro j h1 h2
        have := a2 j (by omega)
        simpa [List.getD, h1, h2] using this
      rw [decide_eq_true this] at h; exact h
theorem num_MB {n below : Int} {K : Int → Prop} (hb : 0 < below) (hb2 : below ≤ 100000) (h : ∀ m, 0 ≤ m → m < below → K m) : M_smithyworld_Number n below K := by
  have h1 := Int.tmod_lt_of_pos n hb
  have h2 : -below < n.tmod below := Int.lt_tmod_of_pos n hb
  have h3 : 0 ≤ (n.tmod below + below).tmod below := Int.tmod_nonneg below (by omega)
  have h4 := Int.tmod_lt_of_pos (n.tmod below + below) hb
  exact ⟨by omega, by simp only [In]; omega, by omega, h _ h3 h4⟩
theorem in_le {x : Int} (h : -1000 ≤ x ∧ x ≤ 1000) : In .i64 x := by simp only [In]; omega
theorem name_x {K : Bool → Prop} (h : K true) : M_lex_Name [120] K := by
  refine ⟨fun i => i = 0 ∨ i = 1, fun i => (2 - i).toNat, .inl rfl, ?_⟩
  rintro i (rfl | rfl)
  · refine ⟨fun _ => ⟨by decide, ?_⟩, fun f => absurd (by decide) f⟩
    unfold M_lex_letter
    refine ⟨fun q => q = false, ⟨fun f => absurd f (by decide), fun _ => rfl⟩, ?_⟩
    rintro _ rfl
    exact ⟨fun f => (by cases f), fun _ => ⟨by simp only [In]; omega, .inr rfl, by decide⟩⟩
  · refine ⟨fun f => absurd f (by decide), fun _ => ⟨fun q => q = true, ⟨fun _ => ?_, fun f => absurd f (by decide)⟩, ?_⟩⟩
    · unfold M_lex_Words
      intro _ _
      generalize hw : ([([70, 97, 108, 115, 101] : List UInt8), ([78, 111, 110, 101] : List UInt8), ([84, 114, 117, 101] : List UInt8), ([97, 110, 100] : List UInt8), ([98, 114, 101, 97, 107] : List UInt8), ([99, 111, 110, 116, 105, 110, 117, 101] : List UInt8), ([100, 101, 102] : List UInt8), ([101, 108, 105, 102] : List UInt8), ([101, 108, 115, 101] : List UInt8), ([102, 111, 114] : List UInt8), ([105, 102] : List UInt8), ([105, 110] : List UInt8), ([108, 111, 97, 100] : List UInt8), ([110, 111, 116] : List UInt8), ([111, 114] : List UInt8), ([112, 97, 115, 115] : List UInt8), ([114, 101, 116, 117, 114, 110] : List UInt8)] : List (List UInt8)) = W
      have hm : ([120] : List UInt8) ∉ W := by rw [← hw]; decide
      have hl : W.length = 17 := by rw [← hw]; rfl
      refine ⟨fun i => 0 ≤ i ∧ i ≤ 17, fun i => (17 - i).toNat, ⟨by omega, by omega⟩, fun i ⟨a0, a1⟩ => ⟨fun hlt => ⟨by omega, fun f => ?_, fun _ => ⟨by simp only [In]; omega, ⟨by omega, by omega⟩, by dsimp only; omega⟩⟩, fun _ => ?_⟩⟩
      · exact absurd (by rw [f]; exact getD_memB (by omega)) hm
      · rfl
    · rintro _ rfl
      exact h
theorem format_first {K : List UInt8 → Er → Prop} (h : K [49, 45, 50] .ok) : M_str_Format [123, 125, 45, 123, 120, 125] [[49]] [[120]] [[50]] K := by
  intro _ _ _
  have g1 : mget ([] : List (List UInt8 × List UInt8)) [120] = none := rfl
  have g2 : mput ([] : List (List UInt8 × List UInt8)) [120] [50] = [([120], [50])] := by decide
  have g3 : mget ([([120], [50])] : List (List UInt8 × List UInt8)) [120] = some [50] := by decide
  refine ⟨fun i m => (i = 0 ∧ m = []) ∨ (i = 1 ∧ m = [([120], [50])]), fun i _ => (2 - i).toNat, .inl ⟨rfl, rfl⟩, ?_⟩
  rintro i m (⟨rfl, rfl⟩ | ⟨rfl, rfl⟩)
  · refine ⟨fun _ => ⟨fun m => m = [([120], [50])], ⟨by decide, by decide, fun _ => ⟨by decide, by decide, ?_⟩, fun f => absurd f (by decide)⟩, ?_⟩, fun f => absurd (by decide) f⟩
    · exact g2
    · rintro _ rfl
      exact ⟨by simp only [In]; omega, .inr ⟨rfl, rfl⟩, by decide⟩
  refine ⟨fun f => absurd f (by decide), fun _ => ?_⟩
  refine ⟨fun i b n t bad => (i = 0 ∧ b = [] ∧ n = 0 ∧ t = false ∧ bad = false) ∨ (i = 2 ∧ b = [49] ∧ n = 1 ∧ t = false ∧ bad = false) ∨ (i = 3 ∧ b = [49, 45] ∧ n = 1 ∧ t = false ∧ bad = false) ∨ (i = 6 ∧ b = [49, 45, 50] ∧ n = 1 ∧ t = false ∧ bad = false), fun i _ _ _ _ => (6 - i).toNat, .inl ⟨rfl, rfl, rfl, rfl, rfl⟩, ?_⟩
  have pre : ∀ (s p : List UInt8) (K : Bool → Prop), K (decide (p.length ≤ s.length) && decide (s.take p.length = p)) → M_strings_HasPrefix s p K := fun s p K hK => by
    refine ⟨fun f => ?_, ?_⟩
    · rw [decide_eq_true_eq] at f; omega
    · rw [show decide ((p.length : Int) ≤ (s.length : Int)) = decide (p.length ≤ s.length) by congr 1; rw [eq_iff_iff]; omega]
      exact hK
  rintro i b n t bad (⟨rfl, rfl, rfl, rfl, rfl⟩ | ⟨rfl, rfl, rfl, rfl, rfl⟩ | ⟨rfl, rfl, rfl, rfl, rfl⟩ | ⟨rfl, rfl, rfl, rfl, rfl⟩)
  · refine ⟨fun _ => ⟨by decide, ?_⟩, fun f => absurd f (by decide)⟩
    intro _ _
    refine ⟨fun q => q = false, pre _ _ _ ⟨fun f => absurd f (by decide), fun _ => pre _ _ _ (by decide)⟩, ?_⟩
    rintro _ rfl
    refine ⟨fun f => (by cases f), fun _ => ⟨by decide, fun f => absurd f (by decide), fun _ => ⟨by decide, fun f => absurd (by decide) f, fun _ => ?_⟩⟩⟩
    refine ⟨fun f => absurd f (by decide), fun _ => ⟨by decide, ?_⟩⟩
    intro _ _
    refine ⟨fun _ => ?_, fun f => absurd (by decide) f⟩
    intro _ _
    refine ⟨fun f => absurd f (by decide), fun _ => ⟨by decide, by decide, ?_⟩⟩
    exact ⟨in_le (by decide), in_le (by decide), in_le (by decide), fun f => absurd f (by decide), fun _ => ⟨.inr (.inl ⟨by decide, by decide, by decide, rfl, rfl⟩), by decide⟩⟩
  · refine ⟨fun _ => ⟨by decide, ?_⟩, fun f => absurd f (by decide)⟩
    intro _ _
    refine ⟨fun q => q = false, pre _ _ _ ⟨fun f => absurd f (by decide), fun _ => pre _ _ _ (by decide)⟩, ?_⟩
    rintro _ rfl
    refine ⟨fun f => (by cases f), fun _ => ⟨by decide, fun f => absurd f (by decide), fun _ => ⟨by decide, fun _ => ⟨by decide, by decide, ?_⟩, fun f => absurd f (by decide)⟩⟩⟩
    exact ⟨in_le (by decide), fun f => absurd f (by decide), fun _ => ⟨.inr (.inr (.inl ⟨by decide, by decide, rfl, rfl, rfl⟩)), by decide⟩⟩
  · refine ⟨fun _ => ⟨by decide, ?_⟩, fun f => absurd f (by decide)⟩
    intro _ _
    refine ⟨fun q => q = false, pre _ _ _ ⟨fun f => absurd f (by decide), fun _ => pre _ _ _ (by decide)⟩, ?_⟩
    rintro _ rfl
    refine ⟨fun f => (by cases f), fun _ => ⟨by decide, fun f => absurd f (by decide), fun _ => ⟨by decide, fun f => absurd (by decide) f, fun _ => ?_⟩⟩⟩
    refine ⟨fun f => absurd f (by decide), fun _ => ⟨by decide, ?_⟩⟩
    intro _ _
    refine ⟨fun f => absurd f (by decide), fun _ => ?_⟩
    refine digits_M (by decide) ⟨fun f => absurd f (by decide), fun _ => ⟨by decide, fun q => q = false, ⟨fun f => absurd f (by decide), fun _ => ?_⟩, ?_⟩⟩
    · exact name_x rfl
    · rintro _ rfl
      refine ⟨by decide, ?_⟩
      exact ⟨in_le (by decide), in_le (by decide), fun f => absurd f (by decide), fun _ => ⟨.inr (.inr (.inr ⟨by decide, by decide, rfl, rfl, rfl⟩)), by decide⟩⟩
  · exact ⟨fun f => absurd f (by decide), fun _ => ⟨fun f => (by cases f), fun _ => h⟩⟩
theorem sfirst_M {K : Bool → Prop} (h : K true) : M_smithylaw11_first K := by
  have e1 : splP [97, 44, 98, 44, 44, 99] [44] 2 = ([[97], [98], [44, 99]], .ok) := by decide +kernel
  have e2 : cutP 5 (-2) 9 true true = (3, 5) := by decide +kernel
  refine split_M (by decide) (format_first (cut_M (by decide) (by decide) (by simp only [In]; omega) (by simp only [In]; omega) ?_))
  rw [e1, e2]
  refine ⟨fun q => q = true, ⟨fun _ => sameT_M (by decide) (by decide) (by decide), fun f => absurd f (by decide)⟩, ?_⟩
  rintro _ rfl
  exact h
/-! StrParts -/
theorem numP_all (c : Nat) : numP (-1) c = c := rfl
/-! StrRooms -/
theorem rooms_ok {n k : Int} {K : Bool → Prop} (_ : In .i64 n) (_ : In .i64 k) (H : K true) : M_smithylaw11_StrRooms n k K := by
  refine sfirst_M ⟨fun h => (by cases h), fun _ => num_MB (by omega) (by omega) fun u u0 u1 => ⟨by simp only [In]; omega, num_MB (by omega) (by omega) fun m m0 m1 => ?_⟩⟩
  refine ⟨fun b i => 0 ≤ i ∧ i ≤ u + 1 ∧ b = List.replicate i.toNat (122 : UInt8), fun _ i => (u + 1 - i).toNat, ⟨by omega, by omega, rfl⟩, fun b i ⟨a0, a1, a2⟩ => ⟨fun hlt => ?_, fun hge => ?_⟩⟩
  · refine ⟨?_, by simp only [In]; omega, ⟨by omega, by omega, ?_⟩, by dsimp only; omega⟩
    · rw [a2, List.length_replicate, List.length_singleton]; omega
    · rw [show (i + 1).toNat = i.toNat + 1 by omega, List.replicate_succ', a2]
  · rw [show i = u + 1 by omega] at a2
    obtain ⟨w, hw⟩ : ∃ w : Nat, u + 1 = (w : Int) := ⟨(u + 1).toNat, by omega⟩
    obtain ⟨m, rfl⟩ : ∃ m' : Nat, m = (m' : Int) := ⟨m.toNat, by omega⟩
    rw [hw] at a2 ⊢
    rw [Int.toNat_natCast] at a2
    subst a2
    have hw1 : 1 ≤ w := by omega
    have hw2 : w ≤ 60 := by omega
    have hm2 : m < 300 := by omega
    have hmw : w * m ≤ 60 * 300 := Nat.mul_le_mul hw2 (by omega)
    have e1 : ((w : Int) * (m : Int)) = ((w * m : Nat) : Int) := by simp
    have hne : List.replicate w (122 : UInt8) ≠ [] := by
      intro e
      have := congrArg List.length e
      rw [List.length_replicate, List.length_nil] at this; omega
    have hrep : repP (List.replicate w (122 : UInt8)) m = if w * m ≤ 1024 then (List.replicate (w * m) 122, .ok) else ([], .e 7) := by
      unfold repP
      by_cases h0 : m = 0
      · subst h0; simp
      · rw [if_neg (by rintro (f | f); omega; exact hne f)]
        by_cases h9 : w * m ≤ 1024
        · rw [if_neg (by rw [repP_room (by omega) hne, List.length_replicate, Int.toNat_natCast, Nat.mul_comm]; omega), if_pos h9, Lib.repeatL_replicate, Int.toNat_natCast, Nat.mul_comm m w]
        · rw [if_pos (by rw [repP_room (by omega) hne, List.length_replicate, Int.toNat_natCast, Nat.mul_comm]; omega), if_neg h9]
    refine repeat_M (by rw [List.length_replicate]; omega) (by omega) ?_
    rw [hrep, e1]
    generalize hp : w * m = p at *
    refine ⟨by simp only [In]; omega, fun _ _ => by simp only [In]; omega, ?_⟩
    by_cases h9 : p ≤ 1024
    rotate_left
    · rw [if_neg h9, decide_eq_false (show ¬ ((p : Int) ≤ 1024) by omega)]
      refine ⟨fun q => q = false, ⟨fun f => (by cases f), fun _ => ⟨fun _ => is_M (by rw [isB_e7]; rfl), fun f => (by cases f)⟩⟩, ?_⟩
      rintro _ rfl
      refine ⟨fun f => (by cases f), fun _ => ⟨fun _ => ?_, fun f => absurd f (by omega)⟩⟩
      exact H
    rw [if_pos h9, decide_eq_true (show ((p : Int) ≤ 1024) by omega)]
    refine ⟨fun q => q = false, ⟨fun f => (by simp at f), fun _ => ⟨fun f => (by cases f), fun _ => rfl⟩⟩, ?_⟩
    rintro _ rfl
    refine ⟨fun f => (by cases f), fun _ => ⟨fun f => absurd (by omega) f, fun _ => ?_⟩⟩
    refine join_M (by simp) (by rw [List.length_replicate]; omega) (fun x hx => ?_) ?_
    · simp at hx; rw [hx, List.length_replicate]; omega
    have hj : joinP (List.replicate p (122 : UInt8)) [List.replicate w 122, List.replicate w 122] = if 1024 < 2 * w + p then ([], .e 7) else (List.replicate (2 * w + p) 122, .ok) := by
      have : Lib.join [List.replicate w (122 : UInt8), List.replicate w 122] (List.replicate p 122) = List.replicate (2 * w + p) 122 := by
        rw [Lib.join_cons]
        simp only [Lib.joinTail, List.map_cons, List.map_nil, List.flatten_cons, List.flatten_nil, List.append_nil, List.replicate_append_replicate]
        congr 1; omega
      unfold joinP
      rw [this, List.length_replicate]
    rw [hj]
    refine ⟨by simp only [In]; omega, by simp only [In]; omega, by simp only [In]; omega, fun _ _ => by simp only [In]; omega, fun _ _ => by simp only [In]; omega, fun _ _ => by simp only [In]; omega, fun f => ?_, fun _ => ?_⟩
    · by_cases h8 : 1024 < 2 * w + p
      · rw [if_pos h8, decide_eq_false (show ¬ ((2 : Int) * (w : Int) + (p : Int) ≤ 1024) by omega)] at f
        cases f
      · rw [if_neg h8, decide_eq_true (show ((2 : Int) * (w : Int) + (p : Int) ≤ 1024) by omega), List.length_replicate, decide_eq_true (show (((2 * w + p : Nat) : Int) = (2 : Int) * (w : Int) + (p : Int)) by omega)] at f
        cases f
    refine replace_M (by rw [List.length_replicate]; omega) (by decide) (by decide) ?_
    have hcn : Lib.count (List.replicate p (122 : UInt8)) [122] = p := by rw [Lib.count_one, List.count_replicate_self]
    have hrp : ∀ k, Lib.replaceK [122] [121, 121] k (List.replicate k (122 : UInt8)) = List.replicate (2 * k) 121 := by
      intro k
      induction k with
      | zero => rfl
      | succ k ih =>
        have := rpl_hit (a := [122]) (by decide) [121, 121] k (List.replicate k 122)
        rw [List.singleton_append, ← List.replicate_succ, ih] at this
        rw [this, show 2 * (k + 1) = 2 * k + 1 + 1 by omega, List.replicate_succ, List.replicate_succ]
        rfl
    have hr : rplP (List.replicate p (122 : UInt8)) [122] [121, 121] (-1) = if 1024 < 2 * p then ([], .e 7) else (List.replicate (2 * p) 121, .ok) := by
      have e0 : ¬ ([122] : List UInt8) = [] := by decide
      unfold rplP rplT cntP
      simp only [if_neg e0, numP_all, hcn, hrp, List.length_replicate]
    rw [hr]
    have e5 : ((2 : Int) * (w : Int)) * (m : Int) = ((2 * p : Nat) : Int) := by
      rw [← hp]; simp [Int.mul_assoc]
    rw [e5]
    refine ⟨fun _ => by simp only [In]; omega, fun _ => by simp only [In]; omega, fun _ _ => by simp only [In]; omega, fun _ _ => by simp only [In]; omega, ?_⟩
    refine (congrArg K ?_).mp H
    by_cases h8 : 1024 < 2 * p
    · rw [if_pos h8, decide_eq_false (show ¬ (((2 * p : Nat) : Int) ≤ 1024) by omega)]; rfl
    · rw [if_neg h8, decide_eq_true (show (((2 * p : Nat) : Int) ≤ 1024) by omega), List.length_replicate]; simp
end Go.Proofs.YtjinkmipkfjblaaDoor


 