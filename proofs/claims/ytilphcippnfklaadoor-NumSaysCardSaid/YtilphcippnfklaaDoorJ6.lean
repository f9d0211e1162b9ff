/- Texts of this claim, joined by a program: GSb, GNs, See, NumS. -/
import Derived.Test.YtilphcippnfklaaDoorJ5
/- Printed by a program (wip/vg): what the functions mean, plainly, and their walks. -/
namespace Go.Proofs.YtilphcippnfklaaDoor
open Go Go.RowKit
attribute [local irreducible] WL WC WX WQ WK WJ Yld Eff Ef0 Fn
def M_smithysee_placed (e : Er) (K : Int → Bool → Int → Bool → (List UInt8) → Prop) : Prop :=
 ((∀ (pos : Int) (n : Nat), e = Er.at_ pos n → (((false || (decide ((Er.e n) = Er.ok))) = true → M_smithyref_Bare (-1 : Int) (fun (t24_Code : Int) (t24_Placed : Bool) (t24_Pos : Int) (t24_Filed : Bool) (t24_File : List UInt8) =>
 K t24_Code t24_Placed t24_Pos t24_Filed t24_File)) ∧
 ((false || (decide ((Er.e n) = Er.ok))) = false → M_smithysee_sentinel (Er.e n) (fun (t29 : Int) =>
 M_smithyref_Placed t29 pos (fun (t34_Code : Int) (t34_Placed : Bool) (t34_Pos : Int) (t34_Filed : Bool) (t34_File : List UInt8) =>
 K t34_Code t34_Placed t34_Pos t34_Filed t34_File))))) ∧
 ((∀ p n, e ≠ Er.at_ p n) → M_smithysee_sentinel e (fun (t13 : Int) =>
 M_smithyref_Bare t13 (fun (t14_Code : Int) (t14_Placed : Bool) (t14_Pos : Int) (t14_Filed : Bool) (t14_File : List UInt8) =>
 K t14_Code t14_Placed t14_Pos t14_Filed t14_File))))

def M_smithysee_Fault (e : Er) (K : Int → Bool → Int → Bool → (List UInt8) → Prop) : Prop :=
 ((e = Er.ok → M_smithyref_None (fun (t8_Code : Int) (t8_Placed : Bool) (t8_Pos : Int) (t8_Filed : Bool) (t8_File : List UInt8) =>
 K t8_Code t8_Placed t8_Pos t8_Filed t8_File)) ∧
 (¬ (e = Er.ok) → M_smithysee_placed e (fun (t17_Code : Int) (t17_Placed : Bool) (t17_Pos : Int) (t17_Filed : Bool) (t17_File : List UInt8) =>
 K t17_Code t17_Placed t17_Pos t17_Filed t17_File)))

def M_smithysee_Same (e : Er) (f_Code : Int) (f_Placed : Bool) (f_Pos : Int) (f_Filed : Bool) (f_File : List UInt8) (K : Bool → Prop) : Prop :=
 M_smithysee_Fault e (fun (t6_Code : Int) (t6_Placed : Bool) (t6_Pos : Int) (t6_Filed : Bool) (t6_File : List UInt8) =>
 M_smithyref_SameFault t6_Code t6_Placed t6_Pos t6_Filed t6_File f_Code f_Placed f_Pos f_Filed f_File (fun (t4 : Bool) =>
 K t4))

def M_smithysee_Is (e : Er) (code : Int) (K : Bool → Prop) : Prop :=
 M_smithyref_Bare code (fun (t7_Code : Int) (t7_Placed : Bool) (t7_Pos : Int) (t7_Filed : Bool) (t7_File : List UInt8) =>
 M_smithysee_Same e t7_Code t7_Placed t7_Pos t7_Filed t7_File (fun (t4 : Bool) =>
 K t4))

set_option maxHeartbeats 8000000 in
theorem W_smithysee_placed {S : List Nat} {w : World} {v_e : Value} {e : Er} {K : Int → Bool → Int → Bool → (List UInt8) → Prop} (hG : GOK S w) (hS0 : 0 ∈ S) (hS1 : 1 ∈ S) (hS2 : 2 ∈ S) (hS3 : 3 ∈ S) (hS4 : 4 ∈ S) (hS5 : 5 ∈ S) (hS6 : 6 ∈ S) (hS7 : 7 ∈ S) (hS8 : 8 ∈ S) (hS9 : 9 ∈ S) (hS10 : 10 ∈ S) (hS11 : 11 ∈ S) (hS12 : 12 ∈ S) (hS13 : 13 ∈ S) (hS14 : 14 ∈ S) (hS15 : 15 ∈ S) (hS16 : 16 ∈ S) (he : ErrR S w v_e e) (H : M_smithysee_placed e K) : Fn Tryd.prog 118 ⟨[v_e]⟩ w (fun v w' => w.grownBy w' none ∧ ∃ (r_Code : Int), ∃ (r_Placed : Bool), ∃ (r_Pos : Int), ∃ (r_Filed : Bool), ∃ (r_File : List UInt8), v = .agg ⟨[.int .i64 r_Code, .bool r_Placed, .int .i64 r_Pos, .bool r_Filed, vs r_File]⟩ ∧ K r_Code r_Placed r_Pos r_Filed r_File) := by
  unfold M_smithysee_placed at H
  refine Fn.enter (by kernel_rfl) Tryd.func118 rfl Tryd.ntmps118 rfl ?_
  refine WC.seq ?_
  refine WC.region ?_
  refine WL.alloc rfl zero79 (fun g1 w1 hB1 hg1 hl1 => ?_)
  have gr1 := hg1
  refine WL.nil (WX.then_normal ?_)
  refine WC.seq ?_
  refine WC.region ?_
  refine WL.y rfl (Yld.pure tab_ok rfl) ?_
  rcases Er.atCases e with ⟨pos, n, he1⟩ | he1
  · replace H := H.1 pos n he1
    obtain ⟨b1, vE1, hv1, hB2, hE1⟩ := ErrR.atOut (he1 ▸ (he.grown gr1))
    refine WL.y rfl (Yld.assertYes Tryd.underlying130 rfl hv1) ?_
    refine WL.y rfl (Yld.pure tab_ok rfl) ?_
    refine WL.y rfl (Yld.pure tab_ok rfl) ?_
    refine WL.y rfl (Yld.pure tab_ok rfl) ?_
    refine WL.y rfl (Yld.pure tab_ok rfl) ?_
    refine WL.y rfl (Yld.pure tab_ok rfl) ?_
    refine WL.nil (WX.then_normal ?_)
    refine WC.seq ?_
    refine WC.seq ?_
    refine WC.region ?_
    refine WL.y rfl (Yld.pure tab_ok rfl) ?_
    refine WL.y rfl (Yld.pure tab_ok rfl) ?_
    refine WL.nil (WX.then_normal ?_)
    refine WC.cond rfl (fun h => by cases h) (fun _ => ?_)
    refine WC.skip (WX.then_normal ?_)
    refine WC.seq ?_
    refine WC.seq ?_
    refine WC.region ?_
    refine WL.y rfl (Yld.pure tab_ok rfl) ?_
    refine WL.y rfl (Yld.peqnil Tryd.underlying130 rfl rfl) ?_
    refine WL.y rfl (Yld.pure tab_ok rfl) ?_
    refine WL.midF 6 (fun L' w' => ∃ q1 : Bool, L' = [(23, .bool q1), (2, .pointer (some ⟨g1, 0, none⟩)), (3, .pointer (some ⟨b1, 0, none⟩))] ∧ q1 = (false || (decide ((Er.e n) = Er.ok))) ∧ w1 = w') ?_ (fun hQ => ?_)
    · rintro _ _ ⟨q1, rfl, rfl, rfl⟩
      refine WL.nil (WX.then_normal ?_)
      refine WC.cond rfl (fun b2 => ?_) (fun b2 => ?_)
      · replace H := H.1 (b2)
        refine WC.seq ?_
        refine WC.region ?_
        refine WL.call rfl rfl (W_smithyref_Bare H) ?_
        rintro _ w2 ⟨hg2, t24_Code, t24_Placed, t24_Pos, t24_Filed, t24_File, rfl, H⟩
        have gr2 := gr_trans gr1 hg2
        have k1 := hB1.g0 hg2
        refine WL.storeW (vs := [.int .i64 t24_Code, .bool t24_Placed, .int .i64 t24_Pos, .bool t24_Filed, vs t24_File]) tab_ok rfl rfl rfl (all1c rfl (all1c rfl (all1c rfl (all1c rfl (all1c rfl all1n))))) k1 rfl rfl (fun w3 hB3 hg3 => ?_)
        have gr3 := gr_mod gr2 hg3 (Ge.le (Ge.box hl1) (Nat.le_refl _))
        refine WL.nil (WX.then_normal ?_)
        refine WC.ret (WX.then_ret ?_)
        exact WX.retc tab_ok rfl rfl rfl hB3 rfl ⟨gr3, t24_Code, t24_Placed, t24_Pos, t24_Filed, t24_File, rfl, H⟩
      · replace H := H.2 (b2)
        refine WC.skip (WX.then_normal ?_)
        refine WC.seq ?_
        refine WC.chainF (fun k => !(Nat.beq k 4 || Nat.beq k 9 || Nat.beq k 10)) (LD [3, 8] (fun w' => Bl w' b1 132 [.int .i64 pos, vE1])) mixed (by kernel_rfl) (fun k w' h _ => (bl_eqv h hB2)) ?_
        refine WJ.y rfl rfl (fun w' hw' => Yld.pure tab_ok rfl) ?_
        refine WJ.y rfl rfl (fun w' hw' => Yld.pure tab_ok rfl) ?_
        refine WJ.y rfl rfl (fun w' hw' => Yld.pure tab_ok rfl) ?_
        refine WJ.y rfl rfl (fun w' hw' => Yld.bload tab_ok (hw' rfl) rfl rfl rfl) ?_
        refine WJ.call rfl (wants_none) rfl rfl (W_smithysee_sentinel (hG.grown gr1) hS0 hS1 hS2 hS3 hS4 hS5 hS6 hS7 hS8 hS9 hS10 hS11 hS12 hS13 hS14 hS15 hS16 hE1 H) (fun v w' h w2 e => DD.keep (Bl.g0 hB2 (gr_eqv h.1 e))) ?_
        rintro _ w4 ⟨hg4, t29, rfl, H⟩
        have gr4 := gr_trans gr1 hg4
        have k2 := hB1.g0 hg4
        have k3 := hE1.grown hg4
        have k4 := hB2.g0 hg4
        refine WJ.y rfl rfl (fun w' hw' => Yld.pure tab_ok rfl) ?_
        refine WJ.y rfl rfl (fun w' hw' => Yld.pure tab_ok rfl) ?_
        refine WJ.y rfl rfl (fun w' hw' => Yld.pure tab_ok rfl) ?_
        refine WJ.y rfl rfl (fun w' hw' => Yld.bload tab_ok (hw' rfl) rfl rfl rfl) ?_
        refine WJ.call rfl (wants_none) rfl rfl (W_smithyref_Placed H) (fun v w' h w2 e => DD.keep (Bl.g0 k4 (gr_eqv h.1 e))) ?_
        rintro _ w5 ⟨hg5, t34_Code, t34_Placed, t34_Pos, t34_Filed, t34_File, rfl, H⟩
        have gr5 := gr_trans gr4 hg5
        have k5 := k2.g0 hg5
        have k6 := k4.g0 hg5
        refine WJ.eff rfl (Ef0.storeW (vs := [.int .i64 t34_Code, .bool t34_Placed, .int .i64 t34_Pos, .bool t34_Filed, vs t34_File]) tab_ok rfl rfl rfl (all1c rfl (all1c rfl (all1c rfl (all1c rfl (all1c rfl all1n))))) k5 rfl rfl) (fun w' h => DD.past (by kernel_rfl)) ?_
        rintro w6 ⟨hB4, hg6⟩
        have gr6 := gr_mod gr5 hg6 (Ge.le (Ge.box hl1) (Nat.le_refl _))
        refine WJ.nil (WX.then_normal ?_)
        refine WC.ret ?_
        exact WX.retc tab_ok rfl rfl rfl hB4 rfl ⟨gr6, t34_Code, t34_Placed, t34_Pos, t34_Filed, t34_File, rfl, H⟩
    · clear H
      rcases Bool.eq_false_or_eq_true (false) with b3 | b3
      · refine WL.gno rfl rfl (okb b3) rfl ?_
        refine WL.gno rfl rfl (okb b3) rfl ?_
        refine WL.gno rfl rfl (okb b3) rfl ?_
        refine WL.gno rfl rfl (okb b3) rfl ?_
        refine WL.gno rfl rfl (okb b3) rfl ?_
        refine WL.y rfl (Yld.pickT (okb b3) rfl) ?_
        exact WL.weaken (by repeat (first | exact Sub.nil | refine Sub.cons rfl ?_)) (hQ _ _ ⟨true, rfl, by rw [b3] <;> rfl, rfl⟩)
      · refine WL.gyes rfl rfl (okb b3) rfl (Yld.pure tab_ok rfl) ?_
        refine WL.gyes rfl rfl (okb b3) rfl (Yld.pure tab_ok rfl) ?_
        refine WL.gyes rfl rfl (okb b3) rfl (Yld.pure tab_ok rfl) ?_
        refine WL.gyes rfl rfl (okb b3) rfl (Yld.bload tab_ok hB2 rfl rfl rfl) ?_
        refine WL.gyes rfl rfl (okb b3) rfl (Yld.erreql Tryd.underlying28 hE1 rfl) ?_
        refine WL.y rfl (Yld.pickF (okb b3) rfl) ?_
        exact WL.weaken (by repeat (first | exact Sub.nil | refine Sub.cons rfl ?_)) (hQ _ _ ⟨decide ((Er.e n) = Er.ok), rfl, by rw [b3] <;> rfl, rfl⟩)
  · replace H := H.2 he1
    refine WL.y rfl (Yld.assertNo Tryd.underlying130 (fun _ => by kernel_rfl) (he.grown gr1) rfl rfl (.inr he1)) ?_
    refine WL.y rfl (Yld.pure tab_ok rfl) ?_
    refine WL.y rfl (Yld.pure tab_ok rfl) ?_
    refine WL.y rfl (Yld.pure tab_ok rfl) ?_
    refine WL.y rfl (Yld.pure tab_ok rfl) ?_
    refine WL.y rfl (Yld.pure tab_ok rfl) ?_
    refine WL.nil (WX.then_normal ?_)
    refine WC.seq ?_
    refine WC.seq ?_
    refine WC.region ?_
    refine WL.y rfl (Yld.pure tab_ok rfl) ?_
    refine WL.y rfl (Yld.pure tab_ok rfl) ?_
    refine WL.nil (WX.then_normal ?_)
    refine WC.cond rfl (fun _ => ?_) (fun h => by cases h)
    refine WC.seq ?_
    refine WC.region ?_
    refine WL.y rfl (Yld.pure tab_ok rfl) ?_
    refine WL.call rfl rfl (W_smithysee_sentinel (hG.grown gr1) hS0 hS1 hS2 hS3 hS4 hS5 hS6 hS7 hS8 hS9 hS10 hS11 hS12 hS13 hS14 hS15 hS16 (he.grown gr1) H) ?_
    rintro _ w7 ⟨hg7, t13, rfl, H⟩
    have gr7 := gr_trans gr1 hg7
    have k8 := hB1.g0 hg7
    refine WL.call rfl rfl (W_smithyref_Bare H) ?_
    rintro _ w8 ⟨hg8, t14_Code, t14_Placed, t14_Pos, t14_Filed, t14_File, rfl, H⟩
    have gr8 := gr_trans gr7 hg8
    have k9 := k8.g0 hg8
    refine WL.storeW (vs := [.int .i64 t14_Code, .bool t14_Placed, .int .i64 t14_Pos, .bool t14_Filed, vs t14_File]) tab_ok rfl rfl rfl (all1c rfl (all1c rfl (all1c rfl (all1c rfl (all1c rfl all1n))))) k9 rfl rfl (fun w9 hB5 hg9 => ?_)
    have gr9 := gr_mod gr8 hg9 (Ge.le (Ge.box hl1) (Nat.le_refl _))
    refine WL.nil (WX.then_normal ?_)
    refine WC.ret (WX.then_ret ?_)
    exact WX.retc tab_ok rfl rfl rfl hB5 rfl ⟨gr9, t14_Code, t14_Placed, t14_Pos, t14_Filed, t14_File, rfl, H⟩

set_option maxHeartbeats 8000000 in
theorem W_smithysee_Fault {S : List Nat} {w : World} {v_e : Value} {e : Er} {K : Int → Bool → Int → Bool → (List UInt8) → Prop} (hG : GOK S w) (hS0 : 0 ∈ S) (hS1 : 1 ∈ S) (hS2 : 2 ∈ S) (hS3 : 3 ∈ S) (hS4 : 4 ∈ S) (hS5 : 5 ∈ S) (hS6 : 6 ∈ S) (hS7 : 7 ∈ S) (hS8 : 8 ∈ S) (hS9 : 9 ∈ S) (hS10 : 10 ∈ S) (hS11 : 11 ∈ S) (hS12 : 12 ∈ S) (hS13 : 13 ∈ S) (hS14 : 14 ∈ S) (hS15 : 15 ∈ S) (hS16 : 16 ∈ S) (he : ErrR S w v_e e) (H : M_smithysee_Fault e K) : Fn Tryd.prog 91 ⟨[v_e]⟩ w (fun v w' => w.grownBy w' none ∧ ∃ (r_Code : Int), ∃ (r_Placed : Bool), ∃ (r_Pos : Int), ∃ (r_Filed : Bool), ∃ (r_File : List UInt8), v = .agg ⟨[.int .i64 r_Code, .bool r_Placed, .int .i64 r_Pos, .bool r_Filed, vs r_File]⟩ ∧ K r_Code r_Placed r_Pos r_Filed r_File) := by
  unfold M_smithysee_Fault at H
  refine Fn.enter (by kernel_rfl) Tryd.func91 rfl Tryd.ntmps91 rfl ?_
  refine WC.seq ?_
  refine WC.region ?_
  refine WL.alloc rfl zero79 (fun g1 w1 hB1 hg1 hl1 => ?_)
  have gr1 := hg1
  refine WL.nil (WX.then_normal ?_)
  refine WC.seq ?_
  refine WC.seq ?_
  refine WC.region ?_
  refine WL.y rfl (Yld.pure tab_ok rfl) ?_
  refine WL.y rfl (Yld.erreql Tryd.underlying28 (he.grown gr1) rfl) ?_
  refine WL.nil (WX.then_normal ?_)
  refine WC.cond rfl (fun b1 => ?_) (fun b1 => ?_)
  · replace H := H.1 (of_decide_eq_true b1)
    refine WC.seq ?_
    refine WC.region ?_
    refine WL.call rfl rfl (W_smithyref_None H) ?_
    rintro _ w2 ⟨hg2, t8_Code, t8_Placed, t8_Pos, t8_Filed, t8_File, rfl, H⟩
    have gr2 := gr_trans gr1 hg2
    have k1 := hB1.g0 hg2
    refine WL.storeW (vs := [.int .i64 t8_Code, .bool t8_Placed, .int .i64 t8_Pos, .bool t8_Filed, vs t8_File]) tab_ok rfl rfl rfl (all1c rfl (all1c rfl (all1c rfl (all1c rfl (all1c rfl all1n))))) k1 rfl rfl (fun w3 hB2 hg3 => ?_)
    have gr3 := gr_mod gr2 hg3 (Ge.le (Ge.box hl1) (Nat.le_refl _))
    refine WL.nil (WX.then_normal ?_)
    refine WC.ret (WX.then_ret ?_)
    exact WX.retc tab_ok rfl rfl rfl hB2 rfl ⟨gr3, t8_Code, t8_Placed, t8_Pos, t8_Filed, t8_File, rfl, H⟩
  · replace H := H.2 (of_decide_eq_false b1)
    refine WC.skip (WX.then_normal ?_)
    refine WC.seq ?_
    refine WC.region ?_
    refine WL.y rfl (Yld.pure tab_ok rfl) ?_
    refine WL.y rfl (Yld.assertNo Tryd.underlying152 (fun _ => by kernel_rfl) (he.grown gr1) rfl rfl (.inl rfl)) ?_
    refine WL.y rfl (Yld.pure tab_ok rfl) ?_
    refine WL.y rfl (Yld.pure tab_ok rfl) ?_
    refine WL.y rfl (Yld.pure tab_ok rfl) ?_
    refine WL.y rfl (Yld.pure tab_ok rfl) ?_
    refine WL.y rfl (Yld.pure tab_ok rfl) ?_
    refine WL.nil (WX.then_normal ?_)
    refine WC.seq ?_
    refine WC.seq ?_
    refine WC.region ?_
    refine WL.y rfl (Yld.pure tab_ok rfl) ?_
    refine WL.y rfl (Yld.pure tab_ok rfl) ?_
    refine WL.nil (WX.then_normal ?_)
    refine WC.cond rfl (fun _ => ?_) (fun h => by cases h)
    refine WC.seq ?_
    refine WC.region ?_
    refine WL.y rfl (Yld.pure tab_ok rfl) ?_
    refine WL.call rfl rfl (W_smithysee_placed (hG.grown gr1) hS0 hS1 hS2 hS3 hS4 hS5 hS6 hS7 hS8 hS9 hS10 hS11 hS12 hS13 hS14 hS15 hS16 (he.grown gr1) H) ?_
    rintro _ w4 ⟨hg4, t17_Code, t17_Placed, t17_Pos, t17_Filed, t17_File, rfl, H⟩
    have gr4 := gr_trans gr1 hg4
    have k2 := hB1.g0 hg4
    refine WL.storeW (vs := [.int .i64 t17_Code, .bool t17_Placed, .int .i64 t17_Pos, .bool t17_Filed, vs t17_File]) tab_ok rfl rfl rfl (all1c rfl (all1c rfl (all1c rfl (all1c rfl (all1c rfl all1n))))) k2 rfl rfl (fun w5 hB3 hg5 => ?_)
    have gr5 := gr_mod gr4 hg5 (Ge.le (Ge.box hl1) (Nat.le_refl _))
    refine WL.nil (WX.then_normal ?_)
    refine WC.ret (WX.then_ret ?_)
    exact WX.retc tab_ok rfl rfl rfl hB3 rfl ⟨gr5, t17_Code, t17_Placed, t17_Pos, t17_Filed, t17_File, rfl, H⟩

set_option maxHeartbeats 8000000 in
theorem W_smithysee_Same {S : List Nat} {w : World} {v_e : Value} {e : Er} {f_Code : Int} {f_Placed : Bool} {f_Pos : Int} {f_Filed : Bool} {f_File : List UInt8} {K : Bool → Prop} (hG : GOK S w) (hS0 : 0 ∈ S) (hS1 : 1 ∈ S) (hS2 : 2 ∈ S) (hS3 : 3 ∈ S) (hS4 : 4 ∈ S) (hS5 : 5 ∈ S) (hS6 : 6 ∈ S) (hS7 : 7 ∈ S) (hS8 : 8 ∈ S) (hS9 : 9 ∈ S) (hS10 : 10 ∈ S) (hS11 : 11 ∈ S) (hS12 : 12 ∈ S) (hS13 : 13 ∈ S) (hS14 : 14 ∈ S) (hS15 : 15 ∈ S) (hS16 : 16 ∈ S) (he : ErrR S w v_e e) (H : M_smithysee_Same e f_Code f_Placed f_Pos f_Filed f_File K) : Fn Tryd.prog 52 ⟨[v_e, .agg ⟨[.int .i64 f_Code, .bool f_Placed, .int .i64 f_Pos, .bool f_Filed, vs f_File]⟩]⟩ w (fun v w' => w.grownBy w' none ∧ ∃ (r : Bool), v = .bool r ∧ K r) := by
  unfold M_smithysee_Same at H
  refine Fn.enter (by kernel_rfl) Tryd.func52 rfl Tryd.ntmps52 rfl ?_
  refine WC.seq ?_
  refine WC.region ?_
  refine WL.box (us := [.int .i64 f_Code, .bool f_Placed, .int .i64 f_Pos, .bool f_Filed, vs f_File]) rfl rfl rfl (fun g1 w1 hB1 hg1 hl1 => ?_)
  have gr1 := hg1
  refine WL.y rfl (Yld.pure tab_ok rfl) ?_
  refine WL.nil (WX.then_normal ?_)
  refine WC.seq ?_
  refine WC.chainF (fun k => !(Nat.beq k 1 || Nat.beq k 3)) (LD [2] (fun w' => Bl w' g1 79 [.int .i64 f_Code, .bool f_Placed, .int .i64 f_Pos, .bool f_Filed, vs f_File])) mixed (by kernel_rfl) (fun k w' h _ => (bl_eqv h hB1)) ?_
  refine WJ.y rfl rfl (fun w' hw' => Yld.pure tab_ok rfl) ?_
  refine WJ.call rfl (wants_none) rfl rfl (W_smithysee_Fault (hG.grown gr1) hS0 hS1 hS2 hS3 hS4 hS5 hS6 hS7 hS8 hS9 hS10 hS11 hS12 hS13 hS14 hS15 hS16 (he.grown gr1) H) (fun v w' h w2 e => DD.keep (Bl.g0 hB1 (gr_eqv h.1 e))) ?_
  rintro _ w2 ⟨hg2, t6_Code, t6_Placed, t6_Pos, t6_Filed, t6_File, rfl, H⟩
  have gr2 := gr_trans gr1 hg2
  have k1 := hB1.g0 hg2
  refine WJ.y rfl rfl (fun w' hw' => Yld.bagg (vs := [.int .i64 f_Code, .bool f_Placed, .int .i64 f_Pos, .bool f_Filed, vs f_File]) tab_ok (hw' rfl) rfl rfl rfl rfl) ?_
  refine WJ.call rfl (wants_none) rfl rfl (W_smithyref_SameFault H) (fun v w' h w2 e => DD.keep (Bl.g0 k1 (gr_eqv h.1 e))) ?_
  rintro _ w3 ⟨hg3, t4, rfl, H⟩
  have gr3 := gr_trans gr2 hg3
  have k2 := k1.g0 hg3
  refine WJ.y rfl rfl (fun w' hw' => Yld.pure tab_ok rfl) ?_
  refine WJ.nil (WX.then_normal ?_)
  refine WC.ret ?_
  exact WX.ret1 rfl rfl ⟨gr3, t4, rfl, H⟩

set_option maxHeartbeats 8000000 in
theorem W_smithysee_Is {S : List Nat} {w : World} {v_e : Value} {e : Er} {code : Int} {K : Bool → Prop} (hG : GOK S w) (hS0 : 0 ∈ S) (hS1 : 1 ∈ S) (hS2 : 2 ∈ S) (hS3 : 3 ∈ S) (hS4 : 4 ∈ S) (hS5 : 5 ∈ S) (hS6 : 6 ∈ S) (hS7 : 7 ∈ S) (hS8 : 8 ∈ S) (hS9 : 9 ∈ S) (hS10 : 10 ∈ S) (hS11 : 11 ∈ S) (hS12 : 12 ∈ S) (hS13 : 13 ∈ S) (hS14 : 14 ∈ S) (hS15 : 15 ∈ S) (hS16 : 16 ∈ S) (he : ErrR S w v_e e) (H : M_smithysee_Is e code K) : Fn Tryd.prog 18 ⟨[v_e, .int .i64 code]⟩ w (fun v w' => w.grownBy w' none ∧ ∃ (r : Bool), v = .bool r ∧ K r) := by
  unfold M_smithysee_Is at H
  refine Fn.enter (by kernel_rfl) Tryd.func18 rfl Tryd.ntmps18 rfl ?_
  refine WC.seq ?_
  refine WC.region ?_
  refine WL.y rfl (Yld.pure tab_ok rfl) ?_
  refine WL.nil (WX.then_normal ?_)
  refine WC.seq ?_
  refine WC.region ?_
  refine WL.y rfl (Yld.pure tab_ok rfl) ?_
  refine WL.y rfl (Yld.pure tab_ok rfl) ?_
  refine WL.call rfl rfl (W_smithyref_Bare H) ?_
  rintro _ w1 ⟨hg1, t7_Code, t7_Placed, t7_Pos, t7_Filed, t7_File, rfl, H⟩
  have gr1 := hg1
  refine WL.call rfl rfl (W_smithysee_Same (hG.grown gr1) hS0 hS1 hS2 hS3 hS4 hS5 hS6 hS7 hS8 hS9 hS10 hS11 hS12 hS13 hS14 hS15 hS16 (he.grown gr1) H) ?_
  rintro _ w2 ⟨hg2, t4, rfl, H⟩
  have gr2 := gr_trans gr1 hg2
  refine WL.y rfl (Yld.pure tab_ok rfl) ?_
  refine WL.nil (WX.then_normal ?_)
  refine WC.ret ?_
  exact WX.ret1 rfl rfl ⟨gr2, t4, rfl, H⟩

end Go.Proofs.YtilphcippnfklaaDoor
 /- Printed by a program (wip/vg): what the functions mean, plainly, and their walks. -/
namespace Go.Proofs.YtilphcippnfklaaDoor
open Go Go.RowKit
attribute [local irreducible] WL WC WX WQ WK WJ Yld Eff Ef0 Fn
def M_num_Num_Digits (a : Int) (m_a : Nat) (K : Int → Prop) : Prop :=
 M_num_Num_Text a m_a (fun (t4 : List UInt8) =>
 M_strings_TrimPrefix t4 ([45] : List UInt8) (fun (t5 : List UInt8) =>
 K (t5.length : Int)))

def M_smithylaw9_parsed (s : List UInt8) (K : Int → Nat → Bool → (List Int) → Bool → Prop) : Prop :=
 M_num_Parse s (fun (t110 : Int) (m_t110 : Nat) (t111 : Er) =>
 M_smithyref9_Parse s (fun (t160_Neg : Bool) (t160_L : List Int) (t161 : Bool) =>
 K t110 m_t110 t160_Neg t160_L ((decide (t111 = Er.ok)) && t161)))

def M_smithylaw9_NumSays (s : List UInt8) (t : List UInt8) (K : Bool → Prop) : Prop :=
 M_smithylaw9_first (fun (ok : Bool) =>
 (((!ok) = true → K false) ∧
 ((!ok) = false → (((((decide ((300 : Int) < (s.length : Int))) || (decide ((300 : Int) < (t.length : Int)))) || (!ok)) = true → K ok) ∧
 ((((decide ((300 : Int) < (s.length : Int))) || (decide ((300 : Int) < (t.length : Int)))) || (!ok)) = false → M_smithylaw9_parsed s (fun (t460 : Int) (m_t460 : Nat) (t461_Neg : Bool) (t461_L : List Int) (t462 : Bool) =>
 M_smithylaw9_parsed t (fun (t520 : Int) (m_t520 : Nat) (t521_Neg : Bool) (t521_L : List Int) (t522 : Bool) =>
 M_num_Parse s (fun (t580 : Int) (m_t580 : Nat) (t581 : Er) =>
 M_smithyref9_Parse s (fun (t630_Neg : Bool) (t630_L : List Int) (t631 : Bool) =>
 ∃ J1 : Int → Prop, (((t631 = true → J1 (0 : Int)) ∧
 (t631 = false → J1 (113 : Int)))) ∧
 (∀ bad : Int, J1 bad → M_smithysee_Is t581 bad (fun (t69 : Bool) =>
 (((((!t69) || (!t462)) || (!t522)) = true → M_smithysee_Is t581 bad (fun (t4 : Bool) =>
 K t4)) ∧
 ((((!t69) || (!t462)) || (!t522)) = false → M_smithyref9_Num_DivMod t461_Neg t461_L t521_Neg t521_L (fun (t850_Neg : Bool) (t850_L : List Int) (t851_Neg : Bool) (t851_L : List Int) (t852 : Bool) =>
 M_num_Num_Div t460 m_t460 t520 m_t520 (fun (t920 : Int) (m_t920 : Nat) (t921 : Bool) =>
 M_num_Num_Mod t460 m_t460 t520 m_t520 (fun (t980 : Int) (m_t980 : Nat) (t981 : Bool) =>
 ∃ J2 : Bool → Prop, (((((!(t921 == t852)) || (!(t981 == t852))) = true → J2 true) ∧
 (((!(t921 == t852)) || (!(t981 == t852))) = false → M_num_Num_Text t920 m_t920 (fun (t111 : List UInt8) =>
 M_smithyref9_Num_Text t850_Neg t850_L (fun (t113 : List UInt8) =>
 J2 (!decide (t111 = t113))))))) ∧
 (∀ q6 : Bool, J2 q6 → ∃ J3 : Bool → Prop, (((q6 = true → J3 true) ∧
 (q6 = false → M_num_Num_Text t980 m_t980 (fun (t118 : List UInt8) =>
 M_smithyref9_Num_Text t851_Neg t851_L (fun (t120 : List UInt8) =>
 J3 (!decide (t118 = t120))))))) ∧
 (∀ q7 : Bool, J3 q7 → ((q7 = true → K false) ∧
 (q7 = false → M_num_Num_Int t460 m_t460 (fun (t1250 : Int) (t1251 : Bool) =>
 M_smithyref9_Num_Int t461_Neg t461_L (fun (t1300 : Int) (t1301 : Bool) =>
 M_num_Num_Add t460 m_t460 t520 m_t520 (fun (t135 : Int) (m_t135 : Nat) =>
 M_num_Num_Text t135 m_t135 (fun (t136 : List UInt8) =>
 M_smithyref9_Num_Add t461_Neg t461_L t521_Neg t521_L (fun (t139_Neg : Bool) (t139_L : List Int) =>
 M_smithyref9_Num_Text t139_Neg t139_L (fun (t140 : List UInt8) =>
 ∃ J4 : Bool → Prop, ((((decide (t136 = t140)) = true → M_num_Num_Sub t460 m_t460 t520 m_t520 (fun (t145 : Int) (m_t145 : Nat) =>
 M_num_Num_Text t145 m_t145 (fun (t146 : List UInt8) =>
 M_smithyref9_Num_Sub t461_Neg t461_L t521_Neg t521_L (fun (t149_Neg : Bool) (t149_L : List Int) =>
 M_smithyref9_Num_Text t149_Neg t149_L (fun (t150 : List UInt8) =>
 J4 (decide (t146 = t150))))))) ∧
 ((decide (t136 = t140)) = false → J4 false))) ∧
 (∀ q8 : Bool, J4 q8 → ∃ J5 : Bool → Prop, (((q8 = true → M_num_Num_Mul t460 m_t460 t520 m_t520 (fun (t156 : Int) (m_t156 : Nat) =>
 M_num_Num_Text t156 m_t156 (fun (t157 : List UInt8) =>
 M_smithyref9_Num_Mul t461_Neg t461_L t521_Neg t521_L (fun (t160_Neg : Bool) (t160_L : List Int) =>
 M_smithyref9_Num_Text t160_Neg t160_L (fun (t161 : List UInt8) =>
 J5 (decide (t157 = t161))))))) ∧
 (q8 = false → J5 false))) ∧
 (∀ q9 : Bool, J5 q9 → ∃ J6 : Bool → Prop, (((q9 = true → M_num_Num_Neg t460 m_t460 (fun (t166 : Int) (m_t166 : Nat) =>
 M_num_Num_Text t166 m_t166 (fun (t167 : List UInt8) =>
 M_smithyref9_Num_Negate t461_Neg t461_L (fun (t169_Neg : Bool) (t169_L : List Int) =>
 M_smithyref9_Num_Text t169_Neg t169_L (fun (t170 : List UInt8) =>
 J6 (decide (t167 = t170))))))) ∧
 (q9 = false → J6 false))) ∧
 (∀ q10 : Bool, J6 q10 → ∃ J7 : Bool → Prop, (((q10 = true → M_num_Num_Cmp t460 m_t460 t520 m_t520 (fun (t176 : Int) =>
 M_smithyref9_Num_Cmp t461_Neg t461_L t521_Neg t521_L (fun (t179 : Int) =>
 J7 (decide (t176 = t179))))) ∧
 (q10 = false → J7 false))) ∧
 (∀ q11 : Bool, J7 q11 → ∃ J8 : Bool → Prop, (((((q11 && (decide (t1250 = t1300))) && (t1251 == t1301)) = true → M_num_Num_Digits t460 m_t460 (fun (t194 : Int) =>
 M_smithyref9_Num_Digits t461_Neg t461_L (fun (t196 : Int) =>
 J8 (decide (t194 = t196))))) ∧
 (((q11 && (decide (t1250 = t1300))) && (t1251 == t1301)) = false → J8 false))) ∧
 (∀ q14 : Bool, J8 q14 → ∃ J9 : Bool → Prop, (((q14 = true → M_num_Num_Text t460 m_t460 (fun (t201 : List UInt8) =>
 J9 (decide (t201 = s)))) ∧
 (q14 = false → J9 false))) ∧
 (∀ q15 : Bool, J9 q15 → ∃ J10 : Bool → Prop, (((q15 = true → M_num_Num_Text t520 m_t520 (fun (t207 : List UInt8) =>
 J10 (decide (t207 = t)))) ∧
 (q15 = false → J10 false))) ∧
 (∀ q16 : Bool, J10 q16 → K q16)))))))))))))))))))))))))))))))))

set_option maxHeartbeats 8000000 in
theorem W_num_Num_Digits {w : World} {v_a : Value} {v_a2 : Value} {a : Int} {m_a : Nat} {K : Int → Prop} (ha : Nm w (.agg ⟨[v_a, v_a2]⟩) a m_a) (H : M_num_Num_Digits a m_a K) : Fn Tryd.prog 41 ⟨[.agg ⟨[v_a, v_a2]⟩]⟩ w (fun v w' => w.grownBy w' none ∧ ∃ (r : Int), v = .int .i64 r ∧ K r) := by
  unfold M_num_Num_Digits at H
  refine Fn.enter (by kernel_rfl) Tryd.func41 rfl Tryd.ntmps41 rfl ?_
  refine WC.seq ?_
  refine WC.region ?_
  refine WL.box (us := [v_a, v_a2]) rfl rfl rfl (fun g1 w1 hB1 hg1 hl1 => ?_)
  have gr1 := hg1
  refine WL.y rfl (Yld.pure tab_ok rfl) ?_
  refine WL.nil (WX.then_normal ?_)
  refine WC.seq ?_
  refine WC.region ?_
  refine WL.y rfl (Yld.bagg (vs := [v_a, v_a2]) tab_ok hB1 rfl rfl rfl rfl) ?_
  refine WL.call rfl rfl (W_num_Num_Text (ha.grown gr1) H) ?_
  rintro _ w2 ⟨hg2, t4, rfl, H⟩
  have gr2 := gr_trans gr1 hg2
  refine WL.call rfl rfl (W_strings_TrimPrefix H) ?_
  rintro _ _ ⟨rfl, t5, rfl, H⟩
  refine WL.y rfl (Yld.pure tab_ok rfl) ?_
  refine WL.y rfl (Yld.pure tab_ok rfl) ?_
  refine WL.nil (WX.then_normal ?_)
  refine WC.ret ?_
  exact WX.ret1 rfl rfl ⟨gr2, (t5.length : Int), rfl, H⟩

set_option maxHeartbeats 8000000 in
theorem W_smithylaw9_parsed {S : List Nat} {w : World} {s : List UInt8} {K : Int → Nat → Bool → (List Int) → Bool → Prop} (hG : GOK S w) (hS7 : 7 ∈ S) (hS12 : 12 ∈ S) (H : M_smithylaw9_parsed s K) : Fn Tryd.prog 30 ⟨[vs s]⟩ w (fun v w' => w.grownBy w' none ∧ ∃ (v_r0 : Value), ∃ (v_r02 : Value), ∃ (r0 : Int), ∃ (m_r0 : Nat), ∃ (r1_Neg : Bool), ∃ (r1_L : List Int), ∃ (A_r1_L : Option Addr), ∃ (c_r1_L : Nat), ∃ (r2 : Bool), v = .tuple #[.agg ⟨[v_r0, v_r02]⟩, .agg ⟨[.bool r1_Neg, .slice A_r1_L r1_L.length c_r1_L]⟩, .bool r2] ∧ Nm w' (.agg ⟨[v_r0, v_r02]⟩) r0 m_r0 ∧ Rd vi w' A_r1_L c_r1_L r1_L ∧ Orig (r1_L ≠ []) (blk A_r1_L) w.heap.size [] ∧ v_r0.oneCell' = true ∧ v_r02.oneCell' = true ∧ K r0 m_r0 r1_Neg r1_L r2) := by
  unfold M_smithylaw9_parsed at H
  refine Fn.enter (by kernel_rfl) Tryd.func30 rfl Tryd.ntmps30 rfl ?_
  refine WC.seq ?_
  refine WC.region ?_
  refine WL.alloc rfl zero44 (fun g1 w1 hB1 hg1 hl1 => ?_)
  have gr1 := hg1
  refine WL.alloc rfl zero56 (fun g2 w2 hB2 hg2 hl2 => ?_)
  have gr2 := gr_trans gr1 hg2
  have k1 := hB1.g0 hg2
  refine WL.y rfl (Yld.pure tab_ok rfl) ?_
  refine WL.nil (WX.then_normal ?_)
  refine WC.seq ?_
  refine WC.region ?_
  refine WL.y rfl (Yld.pure tab_ok rfl) ?_
  refine WL.call rfl rfl (W_num_Parse (hG.grown gr2) hS7 hS12 H) ?_
  rintro _ w3 ⟨hg3, v_t110, v_t1102, t110, m_t110, v_t111, t111, rfl, ht110, ht111, one_v_t110, one_v_t1102, H⟩
  have gr3 := gr_trans gr2 hg3
  have k2 := k1.g0 hg3
  have k3 := hB2.g0 hg3
  refine WL.y rfl (Yld.pure tab_ok rfl) ?_
  refine WL.y rfl (Yld.pure tab_ok rfl) ?_
  refine WL.y rfl (Yld.pure tab_ok rfl) ?_
  refine WL.alloc rfl zero44 (fun g3 w4 hB3 hg4 hl3 => ?_)
  have gr4 := gr_trans gr3 hg4
  have k4 := k2.g0 hg4
  have k5 := k3.g0 hg4
  have k6 := ht110.grown hg4
  have k7 := ht111.grown hg4
  refine WL.storeW (vs := [v_t110, v_t1102]) tab_ok rfl rfl rfl (all1c one_v_t110 (all1c one_v_t1102 all1n)) hB3 rfl rfl (fun w5 hB4 hg5 => ?_)
  have gr5 := gr_mod gr4 hg5 (Ge.le (Ge.box hl3) (size_le gr3))
  have k8 := k4.go hg5 (Dj.new k2.lt' (Ge.box hl3))
  have k9 := k5.go hg5 (Dj.new k3.lt' (Ge.box hl3))
  have k10 := k6.stored hB3 (noC (fun x h => Value.noConfusion h) (noC (fun x h => Value.noConfusion h) noN)) hg5
  have k11 := ErrR.go k7 hG gr4 hg5 gr5 hB3 rfl
  refine WL.y rfl (Yld.pure tab_ok rfl) ?_
  refine WL.nil (WX.then_normal ?_)
  refine WC.seq ?_
  refine WC.region ?_
  refine WL.y rfl (Yld.pure tab_ok rfl) ?_
  refine WL.call rfl rfl (W_smithyref9_Parse H) ?_
  rintro _ w6 ⟨hg6, t160_Neg, t160_L, A_t160_L, c_t160_L, t161, rfl, ht160_L, ho1, H⟩
  have gr6 := gr_trans gr5 hg6
  have k12 := k8.g0 hg6
  have k13 := k9.g0 hg6
  have k14 := k10.grown hg6
  have k15 := k11.grown hg6
  have k16 := hB4.g0 hg6
  refine WL.y rfl (Yld.pure tab_ok rfl) ?_
  refine WL.y rfl (Yld.pure tab_ok rfl) ?_
  refine WL.y rfl (Yld.pure tab_ok rfl) ?_
  refine WL.alloc rfl zero56 (fun g4 w7 hB5 hg7 hl4 => ?_)
  have gr7 := gr_trans gr6 hg7
  have k17 := k12.g0 hg7
  have k18 := k13.g0 hg7
  have k19 := k14.grown hg7
  have k20 := k15.grown hg7
  have k21 := k16.g0 hg7
  have k22 := ht160_L.grown hg7
  refine WL.storeW (vs := [.bool t160_Neg, .slice A_t160_L t160_L.length c_t160_L]) tab_ok rfl rfl rfl (all1c rfl (all1c rfl all1n)) hB5 rfl rfl (fun w8 hB6 hg8 => ?_)
  have gr8 := gr_mod gr7 hg8 (Ge.le (Ge.box hl4) (size_le gr6))
  have k23 := k17.go hg8 (Dj.new k12.lt' (Ge.box hl4))
  have k24 := k18.go hg8 (Dj.new k13.lt' (Ge.box hl4))
  have k25 := k19.stored hB5 (noC (fun x h => Value.noConfusion h) (noC (fun x h => Value.noConfusion h) noN)) hg8
  have k26 := ErrR.go k20 hG gr7 hg8 gr8 hB5 rfl
  have k27 := k21.go hg8 (Dj.new k16.lt' (Ge.box hl4))
  have k28 := k22.go hg8 (Dn.new (fun hx => ht160_L.lt' hx) (Ge.box hl4))
  refine WL.y rfl (Yld.pure tab_ok rfl) ?_
  refine WL.nil (WX.then_normal ?_)
  refine WC.seq ?_
  refine WC.chainF (fun k => !(Nat.beq k 7 || Nat.beq k 8)) (LD [0, 1] (fun w' => Bl w' g3 44 [v_t110, v_t1102] ∧ Bl w' g4 56 [.bool t160_Neg, .slice A_t160_L t160_L.length c_t160_L])) mixed (by kernel_rfl) (fun k w' h _ => ⟨(bl_eqv h k27), (bl_eqv h hB6)⟩) ?_
  refine WJ.y rfl rfl (fun w' hw' => Yld.bagg (vs := [v_t110, v_t1102]) tab_ok (hw' rfl).1 rfl rfl rfl rfl) ?_
  refine WJ.y rfl rfl (fun w' hw' => Yld.bagg (vs := [.bool t160_Neg, .slice A_t160_L t160_L.length c_t160_L]) tab_ok (hw' rfl).2 rfl rfl rfl rfl) ?_
  refine WJ.y rfl rfl (fun w' hw' => Yld.pure tab_ok rfl) ?_
  refine WJ.y rfl rfl (fun w' hw' => Yld.erreql Tryd.underlying28 k26 rfl) ?_
  refine WJ.y rfl rfl (fun w' hw' => Yld.pure tab_ok rfl) ?_
  refine WJ.midF 2 (fun L' w' => ∃ q1 : Bool, L' = [(25, .bool q1), (2, .pointer (some ⟨g1, 0, none⟩)), (3, .pointer (some ⟨g2, 0, none⟩)), (19, .agg ⟨[v_t110, v_t1102]⟩), (20, .agg ⟨[.bool t160_Neg, .slice A_t160_L t160_L.length c_t160_L]⟩)] ∧ q1 = ((decide (t111 = Er.ok)) && t161) ∧ w8 = w') ?_ (fun hQ => ?_)
  · rintro _ _ ⟨q1, rfl, rfl, rfl⟩
    refine WJ.eff rfl (Ef0.storeW (vs := [v_t110, v_t1102]) tab_ok rfl rfl rfl (all1c one_v_t110 (all1c one_v_t1102 all1n)) k23 rfl rfl) (fun w' h => DD.keep (⟨(Bl.go k27 (gr_eqv h.2 (Eqv.refl _)) (Dj.new k2.lt' (Ge.box hl3)).symm), (Bl.go hB6 (gr_eqv h.2 (Eqv.refl _)) (Dj.new k12.lt' (Ge.box hl4)).symm)⟩)) ?_
    rintro w9 ⟨hB7, hg9⟩
    have gr9 := gr_mod gr8 hg9 (Ge.le (Ge.box hl1) (Nat.le_refl _))
    have k29 := k24.go hg9 ((Dj.new hB1.lt' (Ge.box hl2)).symm)
    have k30 := k25.stored k23 (noC (fun x h => Value.noConfusion h) (noC (fun x h => Value.noConfusion h) noN)) hg9
    have k31 := k27.go hg9 ((Dj.new k2.lt' (Ge.box hl3)).symm)
    have k32 := k28.go hg9 (Orig.apart ho1 k8.lt' orN)
    have k33 := hB6.go hg9 ((Dj.new k12.lt' (Ge.box hl4)).symm)
    refine WJ.eff rfl (Ef0.storeW (vs := [.bool t160_Neg, .slice A_t160_L t160_L.length c_t160_L]) tab_ok rfl rfl rfl (all1c rfl (all1c rfl all1n)) k29 rfl rfl) (fun w' h => DD.keep (⟨(Bl.go k31 (gr_eqv h.2 (Eqv.refl _)) (Dj.new k3.lt' (Ge.box hl3)).symm), (Bl.go k33 (gr_eqv h.2 (Eqv.refl _)) (Dj.new k13.lt' (Ge.box hl4)).symm)⟩)) ?_
    rintro w10 ⟨hB8, hg10⟩
    have gr10 := gr_mod gr9 hg10 (Ge.le (Ge.box hl2) (size_le gr1))
    have k34 := hB7.go hg10 (Dj.new hB1.lt' (Ge.box hl2))
    have k35 := k30.stored k29 (noC (fun x h => Value.noConfusion h) (noC (fun x h => Value.noConfusion h) noN)) hg10
    have k36 := k31.go hg10 ((Dj.new k3.lt' (Ge.box hl3)).symm)
    have k37 := k32.go hg10 (Orig.apart ho1 k9.lt' orN)
    have k38 := k33.go hg10 ((Dj.new k13.lt' (Ge.box hl4)).symm)
    refine WJ.y rfl rfl (fun w' hw' => Yld.pure tab_ok rfl) ?_
    refine WJ.nil (WX.then_normal ?_)
    refine WC.ret ?_
    exact WX.retcct tab_ok rfl rfl rfl k34 rfl rfl rfl hB8 rfl rfl ⟨gr10, v_t110, v_t1102, t110, m_t110, t160_Neg, t160_L, A_t160_L, c_t160_L, (decide (t111 = Er.ok)) && t161, rfl, k35, k37, (Orig.trans ho1 (size_le gr5) orN), one_v_t110, one_v_t1102, H⟩
  · clear H
    rcases Bool.eq_false_or_eq_true (decide (t111 = Er.ok)) with b1 | b1
    · refine WJ.yw rfl (wants_some rfl rfl (okb b1)) rfl (fun w' hw' => Yld.pure tab_ok rfl) ?_
      refine WJ.y rfl rfl (fun w' hw' => Yld.pickT (okb b1) rfl) ?_
      exact WJ.weaken (by repeat (first | exact Sub.nil | refine Sub.cons rfl ?_)) (hQ _ _ ⟨t161, rfl, by rw [b1] <;> rfl, rfl⟩)
    · refine WJ.no rfl rfl (okb b1) rfl ?_
      refine WJ.y rfl rfl (fun w' hw' => Yld.pickF (okb b1) rfl) ?_
      exact WJ.weaken (by repeat (first | exact Sub.nil | refine Sub.cons rfl ?_)) (hQ _ _ ⟨false, rfl, by rw [b1] <;> rfl, rfl⟩)

set_option maxHeartbeats 8000000 in
theorem W_smithylaw9_NumSays {S : List Nat} {w : World} {s : List UInt8} {t : List UInt8} {K : Bool → Prop} (hG : GOK S w) (hS0 : 0 ∈ S) (hS1 : 1 ∈ S) (hS2 : 2 ∈ S) (hS3 : 3 ∈ S) (hS4 : 4 ∈ S) (hS5 : 5 ∈ S) (hS6 : 6 ∈ S) (hS7 : 7 ∈ S) (hS8 : 8 ∈ S) (hS9 : 9 ∈ S) (hS10 : 10 ∈ S) (hS11 : 11 ∈ S) (hS12 : 12 ∈ S) (hS13 : 13 ∈ S) (hS14 : 14 ∈ S) (hS15 : 15 ∈ S) (hS16 : 16 ∈ S) (H : M_smithylaw9_NumSays s t K) : Fn Tryd.prog 5 ⟨[vs s, vs t]⟩ w (fun v w' => w.grownBy w' none ∧ ∃ (r : Bool), v = .bool r ∧ K r) := by
  unfold M_smithylaw9_NumSays at H
  refine Fn.enter (by kernel_rfl) Tryd.func5 rfl Tryd.ntmps5 rfl ?_
  refine WC.seq ?_
  refine WC.region ?_
  refine WL.y rfl (Yld.pure tab_ok rfl) ?_
  refine WL.nil (WX.then_normal ?_)
  refine WC.seq ?_
  refine WC.region ?_
  refine WL.call rfl rfl (W_smithylaw9_first H) ?_
  rintro _ w1 ⟨hg1, ok, rfl, H⟩
  have gr1 := hg1
  refine WL.y rfl (Yld.pure tab_ok rfl) ?_
  refine WL.nil (WX.then_normal ?_)
  refine WC.seq ?_
  refine WC.seq ?_
  refine WC.region ?_
  refine WL.y rfl (Yld.pure tab_ok rfl) ?_
  refine WL.y rfl (Yld.pure tab_ok rfl) ?_
  refine WL.nil (WX.then_normal ?_)
  refine WC.cond rfl (fun b1 => ?_) (fun b1 => ?_)
  · replace H := H.1 (b1)
    refine WC.seq ?_
    refine WC.region ?_
    refine WL.y rfl (Yld.pure tab_ok rfl) ?_
    refine WL.nil (WX.then_normal ?_)
    refine WC.ret (WX.then_ret ?_)
    exact WX.ret1 rfl rfl ⟨gr1, false, rfl, H⟩
  · replace H := H.2 (b1)
    refine WC.skip (WX.then_normal ?_)
    refine WC.seq ?_
    refine WC.seq ?_
    refine WC.region ?_
    refine WL.y rfl (Yld.pure tab_ok rfl) ?_
    refine WL.y rfl (Yld.pure tab_ok rfl) ?_
    refine WL.y rfl (Yld.pure tab_ok rfl) ?_
    refine WL.y rfl (Yld.pure tab_ok rfl) ?_
    refine WL.midF 4 (fun L' w' => ∃ q1 : Bool, L' = [(38, .bool q1), (0, vs s), (1, vs t), (5, .bool ok)] ∧ q1 = ((decide ((300 : Int) < (s.length : Int))) || (decide ((300 : Int) < (t.length : Int)))) ∧ w1 = w') ?_ (fun hQ => ?_)
    · rintro _ _ ⟨q1, rfl, rfl, rfl⟩
      refine WL.y rfl (Yld.pure tab_ok rfl) ?_
      refine WL.midF 3 (fun L' w' => ∃ q2 : Bool, L' = [(42, .bool q2), (0, vs s), (1, vs t), (5, .bool ok)] ∧ q2 = (((decide ((300 : Int) < (s.length : Int))) || (decide ((300 : Int) < (t.length : Int)))) || (!ok)) ∧ w1 = w') ?_ (fun hQ => ?_)
      · rintro _ _ ⟨q2, rfl, rfl, rfl⟩
        refine WL.nil (WX.then_normal ?_)
        refine WC.cond rfl (fun b2 => ?_) (fun b2 => ?_)
        · replace H := H.1 (b2)
          refine WC.seq ?_
          refine WC.region ?_
          refine WL.y rfl (Yld.pure tab_ok rfl) ?_
          refine WL.y rfl (Yld.pure tab_ok rfl) ?_
          refine WL.nil (WX.then_normal ?_)
          refine WC.ret (WX.then_ret ?_)
          exact WX.ret1 rfl rfl ⟨gr1, ok, rfl, H⟩
        · replace H := H.2 (b2)
          refine WC.skip (WX.then_normal ?_)
          refine WC.seq ?_
          refine WC.region ?_
          refine WL.y rfl (Yld.pure tab_ok rfl) ?_
          refine WL.call rfl rfl (W_smithylaw9_parsed (hG.grown gr1) hS7 hS12 H) ?_
          rintro _ w2 ⟨hg2, v_t460, v_t4602, t460, m_t460, t461_Neg, t461_L, A_t461_L, c_t461_L, t462, rfl, ht460, ht461_L, ho1, one_v_t460, one_v_t4602, H⟩
          have gr2 := gr_trans gr1 hg2
          refine WL.y rfl (Yld.pure tab_ok rfl) ?_
          refine WL.y rfl (Yld.pure tab_ok rfl) ?_
          refine WL.y rfl (Yld.pure tab_ok rfl) ?_
          refine WL.y rfl (Yld.pure tab_ok rfl) ?_
          refine WL.alloc rfl zero44 (fun g1 w3 hB1 hg3 hl1 => ?_)
          have gr3 := gr_trans gr2 hg3
          have k1 := ht460.grown hg3
          have k2 := ht461_L.grown hg3
          refine WL.alloc rfl zero56 (fun g2 w4 hB2 hg4 hl2 => ?_)
          have gr4 := gr_trans gr3 hg4
          have k3 := k1.grown hg4
          have k4 := k2.grown hg4
          have k5 := hB1.g0 hg4
          refine WL.storeW (vs := [v_t460, v_t4602]) tab_ok rfl rfl rfl (all1c one_v_t460 (all1c one_v_t4602 all1n)) k5 rfl rfl (fun w5 hB3 hg5 => ?_)
          have gr5 := gr_mod gr4 hg5 (Ge.le (Ge.box hl1) (size_le gr2))
          have k6 := k3.stored k5 (noC (fun x h => Value.noConfusion h) (noC (fun x h => Value.noConfusion h) noN)) hg5
          have k7 := k4.go hg5 (Dn.new (fun hx => ht461_L.lt' hx) (Ge.box hl1))
          have k8 := hB2.go hg5 ((Dj.new hB1.lt' (Ge.box hl2)).symm)
          refine WL.storeW (vs := [.bool t461_Neg, .slice A_t461_L t461_L.length c_t461_L]) tab_ok rfl rfl rfl (all1c rfl (all1c rfl all1n)) k8 rfl rfl (fun w6 hB4 hg6 => ?_)
          have gr6 := gr_mod gr5 hg6 (Ge.le (Ge.box hl2) (size_le gr3))
          have k9 := k6.stored k8 (noC (fun x h => Value.noConfusion h) (noC (fun x h => Value.noConfusion h) noN)) hg6
          have k10 := k7.go hg6 (Dn.new (fun hx => k2.lt' hx) (Ge.box hl2))
          have k11 := hB3.go hg6 (Dj.new hB1.lt' (Ge.box hl2))
          refine WL.y rfl (Yld.pure tab_ok rfl) ?_
          refine WL.nil (WX.then_normal ?_)
          refine WC.seq ?_
          refine WC.region ?_
          refine WL.y rfl (Yld.pure tab_ok rfl) ?_
          refine WL.call rfl rfl (W_smithylaw9_parsed (hG.grown gr6) hS7 hS12 H) ?_
          rintro _ w7 ⟨hg7, v_t520, v_t5202, t520, m_t520, t521_Neg, t521_L, A_t521_L, c_t521_L, t522, rfl, ht520, ht521_L, ho2, one_v_t520, one_v_t5202, H⟩
          have gr7 := gr_trans gr6 hg7
          have k12 := k9.grown hg7
          have k13 := k10.grown hg7
          have k14 := k11.g0 hg7
          have k15 := hB4.g0 hg7
          refine WL.y rfl (Yld.pure tab_ok rfl) ?_
          refine WL.y rfl (Yld.pure tab_ok rfl) ?_
          refine WL.y rfl (Yld.pure tab_ok rfl) ?_
          refine WL.y rfl (Yld.pure tab_ok rfl) ?_
          refine WL.alloc rfl zero44 (fun g3 w8 hB5 hg8 hl3 => ?_)
          have gr8 := gr_trans gr7 hg8
          have k16 := k12.grown hg8
          have k17 := k13.grown hg8
          have k18 := k14.g0 hg8
          have k19 := k15.g0 hg8
          have k20 := ht520.grown hg8
          have k21 := ht521_L.grown hg8
          refine WL.alloc rfl zero56 (fun g4 w9 hB6 hg9 hl4 => ?_)
          have gr9 := gr_trans gr8 hg9
          have k22 := k16.grown hg9
          have k23 := k17.grown hg9
          have k24 := k18.g0 hg9
          have k25 := k19.g0 hg9
          have k26 := k20.grown hg9
          have k27 := k21.grown hg9
          have k28 := hB5.g0 hg9
          refine WL.storeW (vs := [v_t520, v_t5202]) tab_ok rfl rfl rfl (all1c one_v_t520 (all1c one_v_t5202 all1n)) k28 rfl rfl (fun w10 hB7 hg10 => ?_)
          have gr10 := gr_mod gr9 hg10 (Ge.le (Ge.box hl3) (size_le gr7))
          have k29 := k22.stored k28 (noC (fun x h => Value.noConfusion h) (noC (fun x h => Value.noConfusion h) noN)) hg10
          have k30 := k23.go hg10 (Dn.new (fun hx => k13.lt' hx) (Ge.box hl3))
          have k31 := k24.go hg10 (Dj.new k14.lt' (Ge.box hl3))
          have k32 := k25.go hg10 (Dj.new k15.lt' (Ge.box hl3))
          have k33 := k26.stored k28 (noC (fun x h => Value.noConfusion h) (noC (fun x h => Value.noConfusion h) noN)) hg10
          have k34 := k27.go hg10 (Dn.new (fun hx => ht521_L.lt' hx) (Ge.box hl3))
          have k35 := hB6.go hg10 ((Dj.new hB5.lt' (Ge.box hl4)).symm)
          refine WL.storeW (vs := [.bool t521_Neg, .slice A_t521_L t521_L.length c_t521_L]) tab_ok rfl rfl rfl (all1c rfl (all1c rfl all1n)) k35 rfl rfl (fun w11 hB8 hg11 => ?_)
          have gr11 := gr_mod gr10 hg11 (Ge.le (Ge.box hl4) (size_le gr8))
          have k36 := k29.stored k35 (noC (fun x h => Value.noConfusion h) (noC (fun x h => Value.noConfusion h) noN)) hg11
          have k37 := k30.go hg11 (Dn.new (fun hx => k17.lt' hx) (Ge.box hl4))
          have k38 := k31.go hg11 (Dj.new k18.lt' (Ge.box hl4))
          have k39 := k32.go hg11 (Dj.new k19.lt' (Ge.box hl4))
          have k40 := k33.stored k35 (noC (fun x h => Value.noConfusion h) (noC (fun x h => Value.noConfusion h) noN)) hg11
          have k41 := k34.go hg11 (Dn.new (fun hx => k21.lt' hx) (Ge.box hl4))
          have k42 := hB7.go hg11 (Dj.new hB5.lt' (Ge.box hl4))
          refine WL.y rfl (Yld.pure tab_ok rfl) ?_
          refine WL.nil (WX.then_normal ?_)
          refine WC.seq ?_
          refine WC.region ?_
          refine WL.y rfl (Yld.pure tab_ok rfl) ?_
          refine WL.call rfl rfl (W_num_Parse (hG.grown gr11) hS7 hS12 H) ?_
          rintro _ w12 ⟨hg12, v_t580, v_t5802, t580, m_t580, v_t581, t581, rfl, ht580, ht581, one_v_t580, one_v_t5802, H⟩
          have gr12 := gr_trans gr11 hg12
          have k43 := k36.grown hg12
          have k44 := k37.grown hg12
          have k45 := k38.g0 hg12
          have k46 := k39.g0 hg12
          have k47 := k40.grown hg12
          have k48 := k41.grown hg12
          have k49 := k42.g0 hg12
          have k50 := hB8.g0 hg12
          refine WL.y rfl (Yld.pure tab_ok rfl) ?_
          refine WL.y rfl (Yld.pure tab_ok rfl) ?_
          refine WL.y rfl (Yld.pure tab_ok rfl) ?_
          refine WL.alloc rfl zero44 (fun g5 w13 hB9 hg13 hl5 => ?_)
          have gr13 := gr_trans gr12 hg13
          have k51 := k43.grown hg13
          have k52 := k44.grown hg13
          have k53 := k45.g0 hg13
          have k54 := k46.g0 hg13
          have k55 := k47.grown hg13
          have k56 := k48.grown hg13
          have k57 := k49.g0 hg13
          have k58 := k50.g0 hg13
          have k59 := ht580.grown hg13
          have k60 := ht581.grown hg13
          refine WL.storeW (vs := [v_t580, v_t5802]) tab_ok rfl rfl rfl (all1c one_v_t580 (all1c one_v_t5802 all1n)) hB9 rfl rfl (fun w14 hB10 hg14 => ?_)
          have gr14 := gr_mod gr13 hg14 (Ge.le (Ge.box hl5) (size_le gr12))
          have k61 := k51.stored hB9 (noC (fun x h => Value.noConfusion h) (noC (fun x h => Value.noConfusion h) noN)) hg14
          have k62 := k52.go hg14 (Dn.new (fun hx => k44.lt' hx) (Ge.box hl5))
          have k63 := k53.go hg14 (Dj.new k45.lt' (Ge.box hl5))
          have k64 := k54.go hg14 (Dj.new k46.lt' (Ge.box hl5))
          have k65 := k55.stored hB9 (noC (fun x h => Value.noConfusion h) (noC (fun x h => Value.noConfusion h) noN)) hg14
          have k66 := k56.go hg14 (Dn.new (fun hx => k48.lt' hx) (Ge.box hl5))
          have k67 := k57.go hg14 (Dj.new k49.lt' (Ge.box hl5))
          have k68 := k58.go hg14 (Dj.new k50.lt' (Ge.box hl5))
          have k69 := ErrR.go k60 hG gr13 hg14 gr14 hB9 rfl
          refine WL.y rfl (Yld.pure tab_ok rfl) ?_
          refine WL.nil (WX.then_normal ?_)
          refine WC.seq ?_
          refine WC.region ?_
          refine WL.y rfl (Yld.pure tab_ok rfl) ?_
          refine WL.call rfl rfl (W_smithyref9_Parse H) ?_
          rintro _ w15 ⟨hg15, t630_Neg, t630_L, A_t630_L, c_t630_L, t631, rfl, ht630_L, ho3, H⟩
          have gr15 := gr_trans gr14 hg15
          have k70 := k61.grown hg15
          have k71 := k62.grown hg15
          have k72 := k63.g0 hg15
          have k73 := k64.g0 hg15
          have k74 := k65.grown hg15
          have k75 := k66.grown hg15
          have k76 := k67.g0 hg15
          have k77 := k68.g0 hg15
          have k78 := k69.grown hg15
          refine WL.y rfl (Yld.pure tab_ok rfl) ?_
          refine WL.y rfl (Yld.pure tab_ok rfl) ?_
          refine WL.y rfl (Yld.pure tab_ok rfl) ?_
          refine WL.alloc rfl zero56 (fun g6 w16 hB11 hg16 hl6 => ?_)
          have gr16 := gr_trans gr15 hg16
          have k79 := k70.grown hg16
          have k80 := k71.grown hg16
          have k81 := k72.g0 hg16
          have k82 := k73.g0 hg16
          have k83 := k74.grown hg16
          have k84 := k75.grown hg16
          have k85 := k76.g0 hg16
          have k86 := k77.g0 hg16
          have k87 := k78.grown hg16
          have k88 := ht630_L.grown hg16
          refine WL.storeW (vs := [.bool t630_Neg, .slice A_t630_L t630_L.length c_t630_L]) tab_ok rfl rfl rfl (all1c rfl (all1c rfl all1n)) hB11 rfl rfl (fun w17 hB12 hg17 => ?_)
          have gr17 := gr_mod gr16 hg17 (Ge.le (Ge.box hl6) (size_le gr15))
          have k89 := k79.stored hB11 (noC (fun x h => Value.noConfusion h) (noC (fun x h => Value.noConfusion h) noN)) hg17
          have k90 := k80.go hg17 (Dn.new (fun hx => k71.lt' hx) (Ge.box hl6))
          have k91 := k81.go hg17 (Dj.new k72.lt' (Ge.box hl6))
          have k92 := k82.go hg17 (Dj.new k73.lt' (Ge.box hl6))
          have k93 := k83.stored hB11 (noC (fun x h => Value.noConfusion h) (noC (fun x h => Value.noConfusion h) noN)) hg17
          have k94 := k84.go hg17 (Dn.new (fun hx => k75.lt' hx) (Ge.box hl6))
          have k95 := k85.go hg17 (Dj.new k76.lt' (Ge.box hl6))
          have k96 := k86.go hg17 (Dj.new k77.lt' (Ge.box hl6))
          have k97 := ErrR.go k87 hG gr16 hg17 gr17 hB11 rfl
          refine WL.y rfl (Yld.pure tab_ok rfl) ?_
          refine WL.nil (WX.then_normal ?_)
          refine WC.seq ?_
          refine WC.region ?_
          refine WL.y rfl (Yld.pure tab_ok rfl) ?_
          refine WL.nil (WX.then_normal ?_)
          refine WC.seq ?_
          obtain ⟨J1, H, hJ1⟩ := H
          refine WC.midF (fun L' w' => ∃ (bad : Int), L' = [(0, vs s), (1, vs t), (6, .pointer (some ⟨g1, 0, none⟩)), (7, .pointer (some ⟨g2, 0, none⟩)), (8, .bool t462), (9, .pointer (some ⟨g3, 0, none⟩)), (10, .pointer (some ⟨g4, 0, none⟩)), (11, .bool t522), (13, v_t581), (16, .int .i64 bad)] ∧ J1 bad ∧ w17 = w') ?_ (fun hQ => ?_)
          · clear H
            rintro _ _ ⟨bad, rfl, H, rfl⟩
            replace H := hJ1 bad H
            refine WX.then_normal ?_
            refine WC.seq ?_
            refine WC.seq ?_
            refine WC.region ?_
            refine WL.y rfl (Yld.pure tab_ok rfl) ?_
            refine WL.y rfl (Yld.pure tab_ok rfl) ?_
            refine WL.call rfl rfl (W_smithysee_Is (hG.grown gr17) hS0 hS1 hS2 hS3 hS4 hS5 hS6 hS7 hS8 hS9 hS10 hS11 hS12 hS13 hS14 hS15 hS16 k97 H) ?_
            rintro _ w18 ⟨hg18, t69, rfl, H⟩
            have gr18 := gr_trans gr17 hg18
            have k98 := k89.grown hg18
            have k99 := k90.grown hg18
            have k100 := k91.g0 hg18
            have k101 := k92.g0 hg18
            have k102 := k93.grown hg18
            have k103 := k94.grown hg18
            have k104 := k95.g0 hg18
            have k105 := k96.g0 hg18
            have k106 := k97.grown hg18
            refine WL.y rfl (Yld.pure tab_ok rfl) ?_
            refine WL.y rfl (Yld.pure tab_ok rfl) ?_
            refine WL.midF 3 (fun L' w' => ∃ q3 : Bool, L' = [(74, .bool q3), (0, vs s), (1, vs t), (6, .pointer (some ⟨g1, 0, none⟩)), (7, .pointer (some ⟨g2, 0, none⟩)), (9, .pointer (some ⟨g3, 0, none⟩)), (10, .pointer (some ⟨g4, 0, none⟩)), (11, .bool t522), (13, v_t581), (16, .int .i64 bad)] ∧ q3 = ((!t69) || (!t462)) ∧ w18 = w') ?_ (fun hQ => ?_)
            · rintro _ _ ⟨q3, rfl, rfl, rfl⟩
              refine WL.y rfl (Yld.pure tab_ok rfl) ?_
              refine WL.midF 3 (fun L' w' => ∃ q4 : Bool, L' = [(78, .bool q4), (0, vs s), (1, vs t), (6, .pointer (some ⟨g1, 0, none⟩)), (7, .pointer (some ⟨g2, 0, none⟩)), (9, .pointer (some ⟨g3, 0, none⟩)), (10, .pointer (some ⟨g4, 0, none⟩)), (13, v_t581), (16, .int .i64 bad)] ∧ q4 = (((!t69) || (!t462)) || (!t522)) ∧ w18 = w') ?_ (fun hQ => ?_)
              · rintro _ _ ⟨q4, rfl, rfl, rfl⟩
                refine WL.nil (WX.then_normal ?_)
                refine WC.cond rfl (fun b3 => ?_) (fun b3 => ?_)
                · replace H := H.1 (b3)
                  refine WC.seq ?_
                  refine WC.region ?_
                  refine WL.y rfl (Yld.pure tab_ok rfl) ?_
                  refine WL.y rfl (Yld.pure tab_ok rfl) ?_
                  refine WL.call rfl rfl (W_smithysee_Is (hG.grown gr18) hS0 hS1 hS2 hS3 hS4 hS5 hS6 hS7 hS8 hS9 hS10 hS11 hS12 hS13 hS14 hS15 hS16 k106 H) ?_
                  rintro _ w19 ⟨hg19, t4, rfl, H⟩
                  have gr19 := gr_trans gr18 hg19
                  refine WL.y rfl (Yld.pure tab_ok rfl) ?_
                  refine WL.nil (WX.then_normal ?_)
                  refine WC.ret (WX.then_ret ?_)
                  exact WX.ret1 rfl rfl ⟨gr19, t4, rfl, H⟩
                · replace H := H.2 (b3)
                  refine WC.skip (WX.then_normal ?_)
                  refine WC.seq ?_
                  refine WC.region ?_
                  refine WL.y rfl (Yld.bagg (vs := [.bool t461_Neg, .slice A_t461_L t461_L.length c_t461_L]) tab_ok k101 rfl rfl rfl rfl) ?_
                  refine WL.y rfl (Yld.bagg (vs := [.bool t521_Neg, .slice A_t521_L t521_L.length c_t521_L]) tab_ok k105 rfl rfl rfl rfl) ?_
                  refine WL.call rfl rfl (W_smithyref9_Num_DivMod k99 rfl k103 rfl H) ?_
                  rintro _ w20 ⟨hg20, t850_Neg, t850_L, A_t850_L, c_t850_L, t851_Neg, t851_L, A_t851_L, c_t851_L, t852, rfl, ht850_L, ho4, ht851_L, ho5, H⟩
                  have gr20 := gr_trans gr18 hg20
                  have k107 := k98.grown hg20
                  have k108 := k99.grown hg20
                  have k109 := k100.g0 hg20
                  have k110 := k101.g0 hg20
                  have k111 := k102.grown hg20
                  have k112 := k103.grown hg20
                  have k113 := k104.g0 hg20
                  have k114 := k105.g0 hg20
                  refine WL.y rfl (Yld.pure tab_ok rfl) ?_
                  refine WL.y rfl (Yld.pure tab_ok rfl) ?_
                  refine WL.y rfl (Yld.pure tab_ok rfl) ?_
                  refine WL.y rfl (Yld.pure tab_ok rfl) ?_
                  refine WL.alloc rfl zero56 (fun g7 w21 hB13 hg21 hl7 => ?_)
                  have gr21 := gr_trans gr20 hg21
                  have k115 := k107.grown hg21
                  have k116 := k108.grown hg21
                  have k117 := k109.g0 hg21
                  have k118 := k110.g0 hg21
                  have k119 := k111.grown hg21
                  have k120 := k112.grown hg21
                  have k121 := k113.g0 hg21
                  have k122 := k114.g0 hg21
                  have k123 := ht850_L.grown hg21
                  have k124 := ht851_L.grown hg21
                  refine WL.alloc rfl zero56 (fun g8 w22 hB14 hg22 hl8 => ?_)
                  have gr22 := gr_trans gr21 hg22
                  have k125 := k115.grown hg22
                  have k126 := k116.grown hg22
                  have k127 := k117.g0 hg22
                  have k128 := k118.g0 hg22
                  have k129 := k119.grown hg22
                  have k130 := k120.grown hg22
                  have k131 := k121.g0 hg22
                  have k132 := k122.g0 hg22
                  have k133 := k123.grown hg22
                  have k134 := k124.grown hg22
                  have k135 := hB13.g0 hg22
                  refine WL.storeW (vs := [.bool t850_Neg, .slice A_t850_L t850_L.length c_t850_L]) tab_ok rfl rfl rfl (all1c rfl (all1c rfl all1n)) k135 rfl rfl (fun w23 hB15 hg23 => ?_)
                  have gr23 := gr_mod gr22 hg23 (Ge.le (Ge.box hl7) (size_le gr20))
                  have k136 := k125.stored k135 (noC (fun x h => Value.noConfusion h) (noC (fun x h => Value.noConfusion h) noN)) hg23
                  have k137 := k126.go hg23 (Dn.new (fun hx => k108.lt' hx) (Ge.box hl7))
                  have k138 := k127.go hg23 (Dj.new k109.lt' (Ge.box hl7))
                  have k139 := k128.go hg23 (Dj.new k110.lt' (Ge.box hl7))
                  have k140 := k129.stored k135 (noC (fun x h => Value.noConfusion h) (noC (fun x h => Value.noConfusion h) noN)) hg23
                  have k141 := k130.go hg23 (Dn.new (fun hx => k112.lt' hx) (Ge.box hl7))
                  have k142 := k131.go hg23 (Dj.new k113.lt' (Ge.box hl7))
                  have k143 := k132.go hg23 (Dj.new k114.lt' (Ge.box hl7))
                  have k144 := k133.go hg23 (Dn.new (fun hx => ht850_L.lt' hx) (Ge.box hl7))
                  have k145 := k134.go hg23 (Dn.new (fun hx => ht851_L.lt' hx) (Ge.box hl7))
                  have k146 := hB14.go hg23 ((Dj.new hB13.lt' (Ge.box hl8)).symm)
                  refine WL.storeW (vs := [.bool t851_Neg, .slice A_t851_L t851_L.length c_t851_L]) tab_ok rfl rfl rfl (all1c rfl (all1c rfl all1n)) k146 rfl rfl (fun w24 hB16 hg24 => ?_)
                  have gr24 := gr_mod gr23 hg24 (Ge.le (Ge.box hl8) (size_le gr21))
                  have k147 := k136.stored k146 (noC (fun x h => Value.noConfusion h) (noC (fun x h => Value.noConfusion h) noN)) hg24
                  have k148 := k137.go hg24 (Dn.new (fun hx => k116.lt' hx) (Ge.box hl8))
                  have k149 := k138.go hg24 (Dj.new k117.lt' (Ge.box hl8))
                  have k150 := k139.go hg24 (Dj.new k118.lt' (Ge.box hl8))
                  have k151 := k140.stored k146 (noC (fun x h => Value.noConfusion h) (noC (fun x h => Value.noConfusion h) noN)) hg24
                  have k152 := k141.go hg24 (Dn.new (fun hx => k120.lt' hx) (Ge.box hl8))
                  have k153 := k142.go hg24 (Dj.new k121.lt' (Ge.box hl8))
                  have k154 := k143.go hg24 (Dj.new k122.lt' (Ge.box hl8))
                  have k155 := k144.go hg24 (Dn.new (fun hx => k123.lt' hx) (Ge.box hl8))
                  have k156 := k145.go hg24 (Dn.new (fun hx => k124.lt' hx) (Ge.box hl8))
                  have k157 := hB15.go hg24 (Dj.new hB13.lt' (Ge.box hl8))
                  refine WL.y rfl (Yld.pure tab_ok rfl) ?_
                  refine WL.nil (WX.then_normal ?_)
                  refine WC.seq ?_
                  refine WC.region ?_
                  refine WL.y rfl (Yld.bagg (vs := [v_t460, v_t4602]) tab_ok k149 rfl rfl rfl rfl) ?_
                  refine WL.y rfl (Yld.bagg (vs := [v_t520, v_t5202]) tab_ok k153 rfl rfl rfl rfl) ?_
                  refine WL.call rfl rfl (W_num_Num_Div k147 k151 H) ?_
                  rintro _ w25 ⟨hg25, v_t920, v_t9202, t920, m_t920, t921, rfl, ht920, one_v_t920, one_v_t9202, H⟩
                  have gr25 := gr_trans gr24 hg25
                  have k158 := k147.grown hg25
                  have k159 := k148.grown hg25
                  have k160 := k149.g0 hg25
                  have k161 := k150.g0 hg25
                  have k162 := k151.grown hg25
                  have k163 := k152.grown hg25
                  have k164 := k153.g0 hg25
                  have k165 := k154.g0 hg25
                  have k166 := k155.grown hg25
                  have k167 := k156.grown hg25
                  have k168 := k157.g0 hg25
                  have k169 := hB16.g0 hg25
                  refine WL.y rfl (Yld.pure tab_ok rfl) ?_
                  refine WL.y rfl (Yld.pure tab_ok rfl) ?_
                  refine WL.y rfl (Yld.pure tab_ok rfl) ?_
                  refine WL.alloc rfl zero44 (fun g9 w26 hB17 hg26 hl9 => ?_)
                  have gr26 := gr_trans gr25 hg26
                  have k170 := k158.grown hg26
                  have k171 := k159.grown hg26
                  have k172 := k160.g0 hg26
                  have k173 := k161.g0 hg26
                  have k174 := k162.grown hg26
                  have k175 := k163.grown hg26
                  have k176 := k164.g0 hg26
                  have k177 := k165.g0 hg26
                  have k178 := k166.grown hg26
                  have k179 := k167.grown hg26
                  have k180 := k168.g0 hg26
                  have k181 := k169.g0 hg26
                  have k182 := ht920.grown hg26
                  refine WL.storeW (vs := [v_t920, v_t9202]) tab_ok rfl rfl rfl (all1c one_v_t920 (all1c one_v_t9202 all1n)) hB17 rfl rfl (fun w27 hB18 hg27 => ?_)
                  have gr27 := gr_mod gr26 hg27 (Ge.le (Ge.box hl9) (size_le gr25))
                  have k183 := k170.stored hB17 (noC (fun x h => Value.noConfusion h) (noC (fun x h => Value.noConfusion h) noN)) hg27
                  have k184 := k171.go hg27 (Dn.new (fun hx => k159.lt' hx) (Ge.box hl9))
                  have k185 := k172.go hg27 (Dj.new k160.lt' (Ge.box hl9))
                  have k186 := k173.go hg27 (Dj.new k161.lt' (Ge.box hl9))
                  have k187 := k174.stored hB17 (noC (fun x h => Value.noConfusion h) (noC (fun x h => Value.noConfusion h) noN)) hg27
                  have k188 := k175.go hg27 (Dn.new (fun hx => k163.lt' hx) (Ge.box hl9))
                  have k189 := k176.go hg27 (Dj.new k164.lt' (Ge.box hl9))
                  have k190 := k177.go hg27 (Dj.new k165.lt' (Ge.box hl9))
                  have k191 := k178.go hg27 (Dn.new (fun hx => k166.lt' hx) (Ge.box hl9))
                  have k192 := k179.go hg27 (Dn.new (fun hx => k167.lt' hx) (Ge.box hl9))
                  have k193 := k180.go hg27 (Dj.new k168.lt' (Ge.box hl9))
                  have k194 := k181.go hg27 (Dj.new k169.lt' (Ge.box hl9))
                  have k195 := k182.stored hB17 (noC (fun x h => Value.noConfusion h) (noC (fun x h => Value.noConfusion h) noN)) hg27
                  refine WL.y rfl (Yld.pure tab_ok rfl) ?_
                  refine WL.nil (WX.then_normal ?_)
                  refine WC.seq ?_
                  refine WC.region ?_
                  refine WL.y rfl (Yld.bagg (vs := [v_t460, v_t4602]) tab_ok k185 rfl rfl rfl rfl) ?_
                  refine WL.y rfl (Yld.bagg (vs := [v_t520, v_t5202]) tab_ok k189 rfl rfl rfl rfl) ?_
                  refine WL.call rfl rfl (W_num_Num_Mod k183 k187 H) ?_
                  rintro _ w28 ⟨hg28, v_t980, v_t9802, t980, m_t980, t981, rfl, ht980, one_v_t980, one_v_t9802, H⟩
                  have gr28 := gr_trans gr27 hg28
                  have k196 := k183.grown hg28
                  have k197 := k184.grown hg28
                  have k198 := k185.g0 hg28
                  have k199 := k186.g0 hg28
                  have k200 := k187.grown hg28
                  have k201 := k188.grown hg28
                  have k202 := k189.g0 hg28
                  have k203 := k190.g0 hg28
                  have k204 := k191.grown hg28
                  have k205 := k192.grown hg28
                  have k206 := k193.g0 hg28
                  have k207 := k194.g0 hg28
                  have k208 := k195.grown hg28
                  have k209 := hB18.g0 hg28
                  refine WL.y rfl (Yld.pure tab_ok rfl) ?_
                  refine WL.y rfl (Yld.pure tab_ok rfl) ?_
                  refine WL.y rfl (Yld.pure tab_ok rfl) ?_
                  refine WL.alloc rfl zero44 (fun g10 w29 hB19 hg29 hl10 => ?_)
                  have gr29 := gr_trans gr28 hg29
                  have k210 := k196.grown hg29
                  have k211 := k197.grown hg29
                  have k212 := k198.g0 hg29
                  have k213 := k199.g0 hg29
                  have k214 := k200.grown hg29
                  have k215 := k201.grown hg29
                  have k216 := k202.g0 hg29
                  have k217 := k203.g0 hg29
                  have k218 := k204.grown hg29
                  have k219 := k205.grown hg29
                  have k220 := k206.g0 hg29
                  have k221 := k207.g0 hg29
                  have k222 := k208.grown hg29
                  have k223 := k209.g0 hg29
                  have k224 := ht980.grown hg29
                  refine WL.storeW (vs := [v_t980, v_t9802]) tab_ok rfl rfl rfl (all1c one_v_t980 (all1c one_v_t9802 all1n)) hB19 rfl rfl (fun w30 hB20 hg30 => ?_)
                  have gr30 := gr_mod gr29 hg30 (Ge.le (Ge.box hl10) (size_le gr28))
                  have k225 := k210.stored hB19 (noC (fun x h => Value.noConfusion h) (noC (fun x h => Value.noConfusion h) noN)) hg30
                  have k226 := k211.go hg30 (Dn.new (fun hx => k197.lt' hx) (Ge.box hl10))
                  have k227 := k212.go hg30 (Dj.new k198.lt' (Ge.box hl10))
                  have k228 := k213.go hg30 (Dj.new k199.lt' (Ge.box hl10))
                  have k229 := k214.stored hB19 (noC (fun x h => Value.noConfusion h) (noC (fun x h => Value.noConfusion h) noN)) hg30
                  have k230 := k215.go hg30 (Dn.new (fun hx => k201.lt' hx) (Ge.box hl10))
                  have k231 := k216.go hg30 (Dj.new k202.lt' (Ge.box hl10))
                  have k232 := k217.go hg30 (Dj.new k203.lt' (Ge.box hl10))
                  have k233 := k218.go hg30 (Dn.new (fun hx => k204.lt' hx) (Ge.box hl10))
                  have k234 := k219.go hg30 (Dn.new (fun hx => k205.lt' hx) (Ge.box hl10))
                  have k235 := k220.go hg30 (Dj.new k206.lt' (Ge.box hl10))
                  have k236 := k221.go hg30 (Dj.new k207.lt' (Ge.box hl10))
                  have k237 := k222.stored hB19 (noC (fun x h => Value.noConfusion h) (noC (fun x h => Value.noConfusion h) noN)) hg30
                  have k238 := k223.go hg30 (Dj.new k209.lt' (Ge.box hl10))
                  have k239 := k224.stored hB19 (noC (fun x h => Value.noConfusion h) (noC (fun x h => Value.noConfusion h) noN)) hg30
                  refine WL.y rfl (Yld.pure tab_ok rfl) ?_
                  refine WL.nil (WX.then_normal ?_)
                  refine WC.seq ?_
                  refine WC.seq ?_
                  refine WC.chainF (fun k => !(Nat.beq k 10 || Nat.beq k 12 || Nat.beq k 17 || Nat.beq k 19)) (LD [9, 11, 16, 18] (fun w' => Bl w' g10 44 [v_t980, v_t9802] ∧ Bl w' g8 56 [.bool t851_Neg, .slice A_t851_L t851_L.length c_t851_L] ∧ Bl w' g9 44 [v_t920, v_t9202] ∧ Bl w' g7 56 [.bool t850_Neg, .slice A_t850_L t850_L.length c_t850_L])) mixed (by kernel_rfl) (fun k w' h _ => ⟨(bl_eqv h hB20), (bl_eqv h k236), (bl_eqv h k238), (bl_eqv h k235)⟩) ?_
                  refine WJ.y rfl rfl (fun w' hw' => Yld.pure tab_ok rfl) ?_
                  refine WJ.y rfl rfl (fun w' hw' => Yld.pure tab_ok rfl) ?_
                  refine WJ.y rfl rfl (fun w' hw' => Yld.bneq Tryd.underlying4 rfl rfl) ?_
                  refine WJ.y rfl rfl (fun w' hw' => Yld.pure tab_ok rfl) ?_
                  refine WJ.midF 4 (fun L' w' => ∃ q5 : Bool, L' = [(108, .bool q5), (0, vs s), (1, vs t), (6, .pointer (some ⟨g1, 0, none⟩)), (7, .pointer (some ⟨g2, 0, none⟩)), (9, .pointer (some ⟨g3, 0, none⟩)), (10, .pointer (some ⟨g4, 0, none⟩)), (17, .pointer (some ⟨g7, 0, none⟩)), (18, .pointer (some ⟨g8, 0, none⟩)), (20, .pointer (some ⟨g9, 0, none⟩)), (22, .pointer (some ⟨g10, 0, none⟩))] ∧ q5 = ((!(t921 == t852)) || (!(t981 == t852))) ∧ w30 = w') ?_ (fun hQ => ?_)
                  · rintro _ _ ⟨q5, rfl, rfl, rfl⟩
                    refine WJ.y rfl rfl (fun w' hw' => Yld.pure tab_ok rfl) ?_
                    obtain ⟨J2, H, hJ2⟩ := H
                    refine WJ.midF 6 (fun L' w' => ∃ q6 : Bool, L' = [(115, .bool q6), (0, vs s), (1, vs t), (6, .pointer (some ⟨g1, 0, none⟩)), (7, .pointer (some ⟨g2, 0, none⟩)), (9, .pointer (some ⟨g3, 0, none⟩)), (10, .pointer (some ⟨g4, 0, none⟩)), (18, .pointer (some ⟨g8, 0, none⟩)), (22, .pointer (some ⟨g10, 0, none⟩))] ∧ J2 q6 ∧ w.grownBy w' none ∧ Nm w' (.agg ⟨[v_t460, v_t4602]⟩) t460 m_t460 ∧ Rd vi w' A_t461_L c_t461_L t461_L ∧ Bl w' g1 44 [v_t460, v_t4602] ∧ Bl w' g2 56 [.bool t461_Neg, .slice A_t461_L t461_L.length c_t461_L] ∧ Nm w' (.agg ⟨[v_t520, v_t5202]⟩) t520 m_t520 ∧ Rd vi w' A_t521_L c_t521_L t521_L ∧ Bl w' g3 44 [v_t520, v_t5202] ∧ Bl w' g4 56 [.bool t521_Neg, .slice A_t521_L t521_L.length c_t521_L] ∧ Rd vi w' A_t851_L c_t851_L t851_L ∧ Bl w' g7 56 [.bool t850_Neg, .slice A_t850_L t850_L.length c_t850_L] ∧ Bl w' g8 56 [.bool t851_Neg, .slice A_t851_L t851_L.length c_t851_L] ∧ Bl w' g9 44 [v_t920, v_t9202] ∧ Nm w' (.agg ⟨[v_t980, v_t9802]⟩) t980 m_t980 ∧ Bl w' g10 44 [v_t980, v_t9802]) ?_ (fun hQ => ?_)
                    · clear H
                      rintro _ w31 ⟨q6, rfl, H, gr31, k240, k241, k242, k243, k244, k245, k246, k247, k248, k249, k250, k251, k252, k253⟩
                      replace H := hJ2 q6 H
                      refine WJ.y rfl rfl (fun w' hw' => Yld.pure tab_ok rfl) ?_
                      obtain ⟨J3, H, hJ3⟩ := H
                      refine WJ.midF 6 (fun L' w' => ∃ q7 : Bool, L' = [(122, .bool q7), (0, vs s), (1, vs t), (6, .pointer (some ⟨g1, 0, none⟩)), (7, .pointer (some ⟨g2, 0, none⟩)), (9, .pointer (some ⟨g3, 0, none⟩)), (10, .pointer (some ⟨g4, 0, none⟩))] ∧ J3 q7 ∧ w.grownBy w' none ∧ Nm w' (.agg ⟨[v_t460, v_t4602]⟩) t460 m_t460 ∧ Rd vi w' A_t461_L c_t461_L t461_L ∧ Bl w' g1 44 [v_t460, v_t4602] ∧ Bl w' g2 56 [.bool t461_Neg, .slice A_t461_L t461_L.length c_t461_L] ∧ Nm w' (.agg ⟨[v_t520, v_t5202]⟩) t520 m_t520 ∧ Rd vi w' A_t521_L c_t521_L t521_L ∧ Bl w' g3 44 [v_t520, v_t5202] ∧ Bl w' g4 56 [.bool t521_Neg, .slice A_t521_L t521_L.length c_t521_L] ∧ Bl w' g7 56 [.bool t850_Neg, .slice A_t850_L t850_L.length c_t850_L] ∧ Bl w' g8 56 [.bool t851_Neg, .slice A_t851_L t851_L.length c_t851_L] ∧ Bl w' g9 44 [v_t920, v_t9202] ∧ Bl w' g10 44 [v_t980, v_t9802]) ?_ (fun hQ => ?_)
                      · clear H
                        rintro _ w32 ⟨q7, rfl, H, gr32, k254, k255, k256, k257, k258, k259, k260, k261, k262, k263, k264, k265⟩
                        replace H := hJ3 q7 H
                        refine WJ.nil (WX.then_normal ?_)
                        refine WC.cond rfl (fun b4 => ?_) (fun b4 => ?_)
                        · replace H := H.1 (b4)
                          refine WC.seq ?_
                          refine WC.region ?_
                          refine WL.y rfl (Yld.pure tab_ok rfl) ?_
                          refine WL.nil (WX.then_normal ?_)
                          refine WC.ret (WX.then_ret ?_)
                          exact WX.ret1 rfl rfl ⟨gr32, false, rfl, H⟩
                        · replace H := H.2 (b4)
                          refine WC.skip (WX.then_normal ?_)
                          refine WC.seq ?_
                          refine WC.region ?_
                          refine WL.y rfl (Yld.bagg (vs := [v_t460, v_t4602]) tab_ok k256 rfl rfl rfl rfl) ?_
                          refine WL.call rfl rfl (W_num_Num_Int k254 H) ?_
                          rintro _ w33 ⟨hg31, t1250, t1251, rfl, H⟩
                          have gr33 := gr_trans gr32 hg31
                          have k266 := k254.grown hg31
                          have k267 := k255.grown hg31
                          have k268 := k256.g0 hg31
                          have k269 := k257.g0 hg31
                          have k270 := k258.grown hg31
                          have k271 := k259.grown hg31
                          have k272 := k260.g0 hg31
                          have k273 := k261.g0 hg31
                          refine WL.y rfl (Yld.pure tab_ok rfl) ?_
                          refine WL.y rfl (Yld.pure tab_ok rfl) ?_
                          refine WL.y rfl (Yld.pure tab_ok rfl) ?_
                          refine WL.y rfl (Yld.pure tab_ok rfl) ?_
                          refine WL.y rfl (Yld.pure tab_ok rfl) ?_
                          refine WL.nil (WX.then_normal ?_)
                          refine WC.seq ?_
                          refine WC.region ?_
                          refine WL.y rfl (Yld.bagg (vs := [.bool t461_Neg, .slice A_t461_L t461_L.length c_t461_L]) tab_ok k269 rfl rfl rfl rfl) ?_
                          refine WL.call rfl rfl (W_smithyref9_Num_Int k267 rfl H) ?_
                          rintro _ w34 ⟨hg32, t1300, t1301, rfl, H⟩
                          have gr34 := gr_trans gr33 hg32
                          have k274 := k266.grown hg32
                          have k275 := k267.grown hg32
                          have k276 := k268.g0 hg32
                          have k277 := k269.g0 hg32
                          have k278 := k270.grown hg32
                          have k279 := k271.grown hg32
                          have k280 := k272.g0 hg32
                          have k281 := k273.g0 hg32
                          refine WL.y rfl (Yld.pure tab_ok rfl) ?_
                          refine WL.y rfl (Yld.pure tab_ok rfl) ?_
                          refine WL.y rfl (Yld.pure tab_ok rfl) ?_
                          refine WL.y rfl (Yld.pure tab_ok rfl) ?_
                          refine WL.y rfl (Yld.pure tab_ok rfl) ?_
                          refine WL.nil (WX.then_normal ?_)
                          refine WC.seq ?_
                          refine WC.chainF (fun k => !(Nat.beq k 2 || Nat.beq k 3 || Nat.beq k 6 || Nat.beq k 7 || Nat.beq k 12 || Nat.beq k 13 || Nat.beq k 16 || Nat.beq k 17 || Nat.beq k 23 || Nat.beq k 24 || Nat.beq k 27 || Nat.beq k 28 || Nat.beq k 33 || Nat.beq k 34 || Nat.beq k 36 || Nat.beq k 37 || Nat.beq k 43 || Nat.beq k 46 || Nat.beq k 61 || Nat.beq k 63 || Nat.beq k 68 || Nat.beq k 74)) (LD [0, 1, 4, 5, 10, 11, 14, 15, 21, 22, 25, 26, 32, 35, 41, 42, 44, 45, 60, 62, 67, 73] (fun w' => Bl w' g1 44 [v_t460, v_t4602] ∧ Bl w' g3 44 [v_t520, v_t5202] ∧ Bl w' g2 56 [.bool t461_Neg, .slice A_t461_L t461_L.length c_t461_L] ∧ Bl w' g4 56 [.bool t521_Neg, .slice A_t521_L t521_L.length c_t521_L])) mixed (by kernel_rfl) (fun k w' h _ => ⟨(bl_eqv h k276), (bl_eqv h k280), (bl_eqv h k277), (bl_eqv h k281)⟩) ?_
                          refine WJ.y rfl rfl (fun w' hw' => Yld.bagg (vs := [v_t460, v_t4602]) tab_ok (hw' rfl).1 rfl rfl rfl rfl) ?_
                          refine WJ.y rfl rfl (fun w' hw' => Yld.bagg (vs := [v_t520, v_t5202]) tab_ok (hw' rfl).2.1 rfl rfl rfl rfl) ?_
                          refine WJ.call rfl (wants_none) rfl rfl (W_num_Num_Add k274 k278 H) (fun v w' h w2 e => DD.keep (⟨(Bl.g0 k276 (gr_eqv h.1 e)), (Bl.g0 k280 (gr_eqv h.1 e)), (Bl.g0 k277 (gr_eqv h.1 e)), (Bl.g0 k281 (gr_eqv h.1 e))⟩)) ?_
                          rintro _ w35 ⟨hg33, v_t135, v_t1352, t135, m_t135, rfl, ht135, one_v_t135, one_v_t1352, H⟩
                          have gr35 := gr_trans gr34 hg33
                          have k282 := k274.grown hg33
                          have k283 := k275.grown hg33
                          have k284 := k276.g0 hg33
                          have k285 := k277.g0 hg33
                          have k286 := k278.grown hg33
                          have k287 := k279.grown hg33
                          have k288 := k280.g0 hg33
                          have k289 := k281.g0 hg33
                          refine WJ.call rfl (wants_none) rfl rfl (W_num_Num_Text ht135 H) (fun v w' h w2 e => DD.keep (⟨(Bl.g0 k284 (gr_eqv h.1 e)), (Bl.g0 k288 (gr_eqv h.1 e)), (Bl.g0 k285 (gr_eqv h.1 e)), (Bl.g0 k289 (gr_eqv h.1 e))⟩)) ?_
                          rintro _ w36 ⟨hg34, t136, rfl, H⟩
                          have gr36 := gr_trans gr35 hg34
                          have k290 := k282.grown hg34
                          have k291 := k283.grown hg34
                          have k292 := k284.g0 hg34
                          have k293 := k285.g0 hg34
                          have k294 := k286.grown hg34
                          have k295 := k287.grown hg34
                          have k296 := k288.g0 hg34
                          have k297 := k289.g0 hg34
                          refine WJ.y rfl rfl (fun w' hw' => Yld.bagg (vs := [.bool t461_Neg, .slice A_t461_L t461_L.length c_t461_L]) tab_ok (hw' rfl).2.2.1 rfl rfl rfl rfl) ?_
                          refine WJ.y rfl rfl (fun w' hw' => Yld.bagg (vs := [.bool t521_Neg, .slice A_t521_L t521_L.length c_t521_L]) tab_ok (hw' rfl).2.2.2 rfl rfl rfl rfl) ?_
                          refine WJ.call rfl (wants_none) rfl rfl (W_smithyref9_Num_Add k291 rfl k295 rfl H) (fun v w' h w2 e => DD.keep (⟨(Bl.g0 k292 (gr_eqv h.1 e)), (Bl.g0 k296 (gr_eqv h.1 e)), (Bl.g0 k293 (gr_eqv h.1 e)), (Bl.g0 k297 (gr_eqv h.1 e))⟩)) ?_
                          rintro _ w37 ⟨hg35, t139_Neg, t139_L, A_t139_L, c_t139_L, rfl, ht139_L, ho6, H⟩
                          have gr37 := gr_trans gr36 hg35
                          have k298 := k290.grown hg35
                          have k299 := k291.grown hg35
                          have k300 := k292.g0 hg35
                          have k301 := k293.g0 hg35
                          have k302 := k294.grown hg35
                          have k303 := k295.grown hg35
                          have k304 := k296.g0 hg35
                          have k305 := k297.g0 hg35
                          refine WJ.call rfl (wants_none) rfl rfl (W_smithyref9_Num_Text ht139_L rfl H) (fun v w' h w2 e => DD.keep (⟨(Bl.g0 k300 (gr_eqv h.1 e)), (Bl.g0 k304 (gr_eqv h.1 e)), (Bl.g0 k301 (gr_eqv h.1 e)), (Bl.g0 k305 (gr_eqv h.1 e))⟩)) ?_
                          rintro _ w38 ⟨hg36, t140, rfl, H⟩
                          have gr38 := gr_trans gr37 hg36
                          have k306 := k298.grown hg36
                          have k307 := k299.grown hg36
                          have k308 := k300.g0 hg36
                          have k309 := k301.g0 hg36
                          have k310 := k302.grown hg36
                          have k311 := k303.grown hg36
                          have k312 := k304.g0 hg36
                          have k313 := k305.g0 hg36
                          refine WJ.y rfl rfl (fun w' hw' => Yld.pure tab_ok rfl) ?_
                          refine WJ.y rfl rfl (fun w' hw' => Yld.pure tab_ok rfl) ?_
                          obtain ⟨J4, H, hJ4⟩ := H
                          refine WJ.midF 10 (fun L' w' => ∃ q8 : Bool, L' = [(152, .bool q8), (0, vs s), (1, vs t), (6, .pointer (some ⟨g1, 0, none⟩)), (7, .pointer (some ⟨g2, 0, none⟩)), (9, .pointer (some ⟨g3, 0, none⟩)), (10, .pointer (some ⟨g4, 0, none⟩)), (24, .int .i64 t1250), (25, .bool t1251), (26, .int .i64 t1300), (27, .bool t1301)] ∧ J4 q8 ∧ w.grownBy w' none ∧ Nm w' (.agg ⟨[v_t460, v_t4602]⟩) t460 m_t460 ∧ Rd vi w' A_t461_L c_t461_L t461_L ∧ Bl w' g1 44 [v_t460, v_t4602] ∧ Bl w' g2 56 [.bool t461_Neg, .slice A_t461_L t461_L.length c_t461_L] ∧ Nm w' (.agg ⟨[v_t520, v_t5202]⟩) t520 m_t520 ∧ Rd vi w' A_t521_L c_t521_L t521_L ∧ Bl w' g3 44 [v_t520, v_t5202] ∧ Bl w' g4 56 [.bool t521_Neg, .slice A_t521_L t521_L.length c_t521_L]) ?_ (fun hQ => ?_)
                          · clear H
                            rintro _ w39 ⟨q8, rfl, H, gr39, k314, k315, k316, k317, k318, k319, k320, k321⟩
                            replace H := hJ4 q8 H
                            refine WJ.y rfl rfl (fun w' hw' => Yld.pure tab_ok rfl) ?_
                            obtain ⟨J5, H, hJ5⟩ := H
                            refine WJ.midF 10 (fun L' w' => ∃ q9 : Bool, L' = [(163, .bool q9), (0, vs s), (1, vs t), (6, .pointer (some ⟨g1, 0, none⟩)), (7, .pointer (some ⟨g2, 0, none⟩)), (9, .pointer (some ⟨g3, 0, none⟩)), (10, .pointer (some ⟨g4, 0, none⟩)), (24, .int .i64 t1250), (25, .bool t1251), (26, .int .i64 t1300), (27, .bool t1301)] ∧ J5 q9 ∧ w.grownBy w' none ∧ Nm w' (.agg ⟨[v_t460, v_t4602]⟩) t460 m_t460 ∧ Rd vi w' A_t461_L c_t461_L t461_L ∧ Bl w' g1 44 [v_t460, v_t4602] ∧ Bl w' g2 56 [.bool t461_Neg, .slice A_t461_L t461_L.length c_t461_L] ∧ Nm w' (.agg ⟨[v_t520, v_t5202]⟩) t520 m_t520 ∧ Rd vi w' A_t521_L c_t521_L t521_L ∧ Bl w' g3 44 [v_t520, v_t5202] ∧ Bl w' g4 56 [.bool t521_Neg, .slice A_t521_L t521_L.length c_t521_L]) ?_ (fun hQ => ?_)
                            · clear H
                              rintro _ w40 ⟨q9, rfl, H, gr40, k322, k323, k324, k325, k326, k327, k328, k329⟩
                              replace H := hJ5 q9 H
                              refine WJ.y rfl rfl (fun w' hw' => Yld.pure tab_ok rfl) ?_
                              obtain ⟨J6, H, hJ6⟩ := H
                              refine WJ.midF 8 (fun L' w' => ∃ q10 : Bool, L' = [(172, .bool q10), (0, vs s), (1, vs t), (6, .pointer (some ⟨g1, 0, none⟩)), (7, .pointer (some ⟨g2, 0, none⟩)), (9, .pointer (some ⟨g3, 0, none⟩)), (10, .pointer (some ⟨g4, 0, none⟩)), (24, .int .i64 t1250), (25, .bool t1251), (26, .int .i64 t1300), (27, .bool t1301)] ∧ J6 q10 ∧ w.grownBy w' none ∧ Nm w' (.agg ⟨[v_t460, v_t4602]⟩) t460 m_t460 ∧ Rd vi w' A_t461_L c_t461_L t461_L ∧ Bl w' g1 44 [v_t460, v_t4602] ∧ Bl w' g2 56 [.bool t461_Neg, .slice A_t461_L t461_L.length c_t461_L] ∧ Nm w' (.agg ⟨[v_t520, v_t5202]⟩) t520 m_t520 ∧ Rd vi w' A_t521_L c_t521_L t521_L ∧ Bl w' g3 44 [v_t520, v_t5202] ∧ Bl w' g4 56 [.bool t521_Neg, .slice A_t521_L t521_L.length c_t521_L]) ?_ (fun hQ => ?_)
                              · clear H
                                rintro _ w41 ⟨q10, rfl, H, gr41, k330, k331, k332, k333, k334, k335, k336, k337⟩
                                replace H := hJ6 q10 H
                                refine WJ.y rfl rfl (fun w' hw' => Yld.pure tab_ok rfl) ?_
                                obtain ⟨J7, H, hJ7⟩ := H
                                refine WJ.midF 8 (fun L' w' => ∃ q11 : Bool, L' = [(181, .bool q11), (0, vs s), (1, vs t), (6, .pointer (some ⟨g1, 0, none⟩)), (7, .pointer (some ⟨g2, 0, none⟩)), (9, .pointer (some ⟨g3, 0, none⟩)), (24, .int .i64 t1250), (25, .bool t1251), (26, .int .i64 t1300), (27, .bool t1301)] ∧ J7 q11 ∧ w.grownBy w' none ∧ Nm w' (.agg ⟨[v_t460, v_t4602]⟩) t460 m_t460 ∧ Rd vi w' A_t461_L c_t461_L t461_L ∧ Bl w' g1 44 [v_t460, v_t4602] ∧ Bl w' g2 56 [.bool t461_Neg, .slice A_t461_L t461_L.length c_t461_L] ∧ Nm w' (.agg ⟨[v_t520, v_t5202]⟩) t520 m_t520 ∧ Bl w' g3 44 [v_t520, v_t5202] ∧ Bl w' g4 56 [.bool t521_Neg, .slice A_t521_L t521_L.length c_t521_L]) ?_ (fun hQ => ?_)
                                · clear H
                                  rintro _ w42 ⟨q11, rfl, H, gr42, k338, k339, k340, k341, k342, k343, k344⟩
                                  replace H := hJ7 q11 H
                                  refine WJ.y rfl rfl (fun w' hw' => Yld.pure tab_ok rfl) ?_
                                  refine WJ.midF 4 (fun L' w' => ∃ q12 : Bool, L' = [(186, .bool q12), (0, vs s), (1, vs t), (6, .pointer (some ⟨g1, 0, none⟩)), (7, .pointer (some ⟨g2, 0, none⟩)), (9, .pointer (some ⟨g3, 0, none⟩)), (25, .bool t1251), (27, .bool t1301)] ∧ q12 = (q11 && (decide (t1250 = t1300))) ∧ w42 = w') ?_ (fun hQ => ?_)
                                  · rintro _ _ ⟨q12, rfl, rfl, rfl⟩
                                    refine WJ.y rfl rfl (fun w' hw' => Yld.pure tab_ok rfl) ?_
                                    refine WJ.midF 4 (fun L' w' => ∃ q13 : Bool, L' = [(191, .bool q13), (0, vs s), (1, vs t), (6, .pointer (some ⟨g1, 0, none⟩)), (7, .pointer (some ⟨g2, 0, none⟩)), (9, .pointer (some ⟨g3, 0, none⟩))] ∧ q13 = ((q11 && (decide (t1250 = t1300))) && (t1251 == t1301)) ∧ w42 = w') ?_ (fun hQ => ?_)
                                    · rintro _ _ ⟨q13, rfl, rfl, rfl⟩
                                      refine WJ.y rfl rfl (fun w' hw' => Yld.pure tab_ok rfl) ?_
                                      obtain ⟨J8, H, hJ8⟩ := H
                                      refine WJ.midF 6 (fun L' w' => ∃ q14 : Bool, L' = [(198, .bool q14), (0, vs s), (1, vs t), (6, .pointer (some ⟨g1, 0, none⟩)), (9, .pointer (some ⟨g3, 0, none⟩))] ∧ J8 q14 ∧ w.grownBy w' none ∧ Nm w' (.agg ⟨[v_t460, v_t4602]⟩) t460 m_t460 ∧ Bl w' g1 44 [v_t460, v_t4602] ∧ Bl w' g2 56 [.bool t461_Neg, .slice A_t461_L t461_L.length c_t461_L] ∧ Nm w' (.agg ⟨[v_t520, v_t5202]⟩) t520 m_t520 ∧ Bl w' g3 44 [v_t520, v_t5202] ∧ Bl w' g4 56 [.bool t521_Neg, .slice A_t521_L t521_L.length c_t521_L]) ?_ (fun hQ => ?_)
                                      · clear H
                                        rintro _ w43 ⟨q14, rfl, H, gr43, k345, k346, k347, k348, k349, k350⟩
                                        replace H := hJ8 q14 H
                                        refine WJ.y rfl rfl (fun w' hw' => Yld.pure tab_ok rfl) ?_
                                        obtain ⟨J9, H, hJ9⟩ := H
                                        refine WJ.midF 5 (fun L' w' => ∃ q15 : Bool, L' = [(204, .bool q15), (1, vs t), (9, .pointer (some ⟨g3, 0, none⟩))] ∧ J9 q15 ∧ w.grownBy w' none ∧ Bl w' g1 44 [v_t460, v_t4602] ∧ Bl w' g2 56 [.bool t461_Neg, .slice A_t461_L t461_L.length c_t461_L] ∧ Nm w' (.agg ⟨[v_t520, v_t5202]⟩) t520 m_t520 ∧ Bl w' g3 44 [v_t520, v_t5202] ∧ Bl w' g4 56 [.bool t521_Neg, .slice A_t521_L t521_L.length c_t521_L]) ?_ (fun hQ => ?_)
                                        · clear H
                                          rintro _ w44 ⟨q15, rfl, H, gr44, k351, k352, k353, k354, k355⟩
                                          replace H := hJ9 q15 H
                                          refine WJ.y rfl rfl (fun w' hw' => Yld.pure tab_ok rfl) ?_
                                          obtain ⟨J10, H, hJ10⟩ := H
                                          refine WJ.midF 5 (fun L' w' => ∃ q16 : Bool, L' = [(210, .bool q16)] ∧ J10 q16 ∧ w.grownBy w' none ∧ Bl w' g1 44 [v_t460, v_t4602] ∧ Bl w' g2 56 [.bool t461_Neg, .slice A_t461_L t461_L.length c_t461_L] ∧ Bl w' g3 44 [v_t520, v_t5202] ∧ Bl w' g4 56 [.bool t521_Neg, .slice A_t521_L t521_L.length c_t521_L]) ?_ (fun hQ => ?_)
                                          · clear H
                                            rintro _ w45 ⟨q16, rfl, H, gr45, k356, k357, k358, k359⟩
                                            replace H := hJ10 q16 H
                                            refine WJ.y rfl rfl (fun w' hw' => Yld.pure tab_ok rfl) ?_
                                            refine WJ.nil (WX.then_normal ?_)
                                            refine WC.ret ?_
                                            exact WX.ret1 rfl rfl ⟨gr45, q16, rfl, H⟩
                                          · clear hJ10
                                            rcases Bool.eq_false_or_eq_true (q15) with b5 | b5
                                            · replace H := H.1 b5
                                              refine WJ.yw rfl (wants_some rfl rfl (okb b5)) rfl (fun w' hw' => Yld.bagg (vs := [v_t520, v_t5202]) tab_ok (hw' rfl).2.1 rfl rfl rfl rfl) ?_
                                              refine WJ.call rfl (wants_some rfl rfl (okb b5)) rfl rfl (W_num_Num_Text k353 H) (fun v w' h w2 e => DD.keep (⟨(Bl.g0 k351 (gr_eqv h.1 e)), (Bl.g0 k354 (gr_eqv h.1 e)), (Bl.g0 k352 (gr_eqv h.1 e)), (Bl.g0 k355 (gr_eqv h.1 e))⟩)) ?_
                                              rintro _ w46 ⟨hg37, t207, rfl, H⟩
                                              have gr46 := gr_trans gr44 hg37
                                              have k360 := k351.g0 hg37
                                              have k361 := k352.g0 hg37
                                              have k362 := k353.grown hg37
                                              have k363 := k354.g0 hg37
                                              have k364 := k355.g0 hg37
                                              refine WJ.yw rfl (wants_some rfl rfl (okb b5)) rfl (fun w' hw' => Yld.pure tab_ok rfl) ?_
                                              refine WJ.yw rfl (wants_some rfl rfl (okb b5)) rfl (fun w' hw' => Yld.pure tab_ok rfl) ?_
                                              refine WJ.y rfl rfl (fun w' hw' => Yld.pickT (okb b5) rfl) ?_
                                              exact WJ.weaken (by repeat (first | exact Sub.nil | refine Sub.cons rfl ?_)) (hQ _ _ ⟨decide (t207 = t), rfl, H, gr46, k360, k361, k363, k364⟩)
                                            · replace H := H.2 b5
                                              refine WJ.no rfl rfl (okb b5) rfl ?_
                                              refine WJ.no rfl rfl (okb b5) rfl ?_
                                              refine WJ.no rfl rfl (okb b5) rfl ?_
                                              refine WJ.no rfl rfl (okb b5) rfl ?_
                                              refine WJ.y rfl rfl (fun w' hw' => Yld.pickF (okb b5) rfl) ?_
                                              exact WJ.weaken (by repeat (first | exact Sub.nil | refine Sub.cons rfl ?_)) (hQ _ _ ⟨false, rfl, H, gr44, k351, k352, k354, k355⟩)
                                        · clear hJ9
                                          rcases Bool.eq_false_or_eq_true (q14) with b6 | b6
                                          · replace H := H.1 b6
                                            refine WJ.yw rfl (wants_some rfl rfl (okb b6)) rfl (fun w' hw' => Yld.bagg (vs := [v_t460, v_t4602]) tab_ok (hw' rfl).1 rfl rfl rfl rfl) ?_
                                            refine WJ.call rfl (wants_some rfl rfl (okb b6)) rfl rfl (W_num_Num_Text k345 H) (fun v w' h w2 e => DD.keep (⟨(Bl.g0 k346 (gr_eqv h.1 e)), (Bl.g0 k349 (gr_eqv h.1 e)), (Bl.g0 k347 (gr_eqv h.1 e)), (Bl.g0 k350 (gr_eqv h.1 e))⟩)) ?_
                                            rintro _ w47 ⟨hg38, t201, rfl, H⟩
                                            have gr47 := gr_trans gr43 hg38
                                            have k365 := k345.grown hg38
                                            have k366 := k346.g0 hg38
                                            have k367 := k347.g0 hg38
                                            have k368 := k348.grown hg38
                                            have k369 := k349.g0 hg38
                                            have k370 := k350.g0 hg38
                                            refine WJ.yw rfl (wants_some rfl rfl (okb b6)) rfl (fun w' hw' => Yld.pure tab_ok rfl) ?_
                                            refine WJ.yw rfl (wants_some rfl rfl (okb b6)) rfl (fun w' hw' => Yld.pure tab_ok rfl) ?_
                                            refine WJ.y rfl rfl (fun w' hw' => Yld.pickT (okb b6) rfl) ?_
                                            exact WJ.weaken (by repeat (first | exact Sub.nil | refine Sub.cons rfl ?_)) (hQ _ _ ⟨decide (t201 = s), rfl, H, gr47, k366, k367, k368, k369, k370⟩)
                                          · replace H := H.2 b6
                                            refine WJ.no rfl rfl (okb b6) rfl ?_
                                            refine WJ.no rfl rfl (okb b6) rfl ?_
                                            refine WJ.no rfl rfl (okb b6) rfl ?_
                                            refine WJ.no rfl rfl (okb b6) rfl ?_
                                            refine WJ.y rfl rfl (fun w' hw' => Yld.pickF (okb b6) rfl) ?_
                                            exact WJ.weaken (by repeat (first | exact Sub.nil | refine Sub.cons rfl ?_)) (hQ _ _ ⟨false, rfl, H, gr43, k346, k347, k348, k349, k350⟩)
                                      · clear hJ8
                                        rcases Bool.eq_false_or_eq_true ((q11 && (decide (t1250 = t1300))) && (t1251 == t1301)) with b7 | b7
                                        · replace H := H.1 b7
                                          refine WJ.yw rfl (wants_some rfl rfl (okb b7)) rfl (fun w' hw' => Yld.bagg (vs := [v_t460, v_t4602]) tab_ok (hw' rfl).1 rfl rfl rfl rfl) ?_
                                          refine WJ.call rfl (wants_some rfl rfl (okb b7)) rfl rfl (W_num_Num_Digits k338 H) (fun v w' h w2 e => DD.keep (⟨(Bl.g0 k340 (gr_eqv h.1 e)), (Bl.g0 k343 (gr_eqv h.1 e)), (Bl.g0 k341 (gr_eqv h.1 e)), (Bl.g0 k344 (gr_eqv h.1 e))⟩)) ?_
                                          rintro _ w48 ⟨hg39, t194, rfl, H⟩
                                          have gr48 := gr_trans gr42 hg39
                                          have k371 := k338.grown hg39
                                          have k372 := k339.grown hg39
                                          have k373 := k340.g0 hg39
                                          have k374 := k341.g0 hg39
                                          have k375 := k342.grown hg39
                                          have k376 := k343.g0 hg39
                                          have k377 := k344.g0 hg39
                                          refine WJ.yw rfl (wants_some rfl rfl (okb b7)) rfl (fun w' hw' => Yld.bagg (vs := [.bool t461_Neg, .slice A_t461_L t461_L.length c_t461_L]) tab_ok (hw' rfl).2.2.1 rfl rfl rfl rfl) ?_
                                          refine WJ.call rfl (wants_some rfl rfl (okb b7)) rfl rfl (W_smithyref9_Num_Digits k372 rfl H) (fun v w' h w2 e => DD.keep (⟨(Bl.g0 k373 (gr_eqv h.1 e)), (Bl.g0 k376 (gr_eqv h.1 e)), (Bl.g0 k374 (gr_eqv h.1 e)), (Bl.g0 k377 (gr_eqv h.1 e))⟩)) ?_
                                          rintro _ w49 ⟨hg40, t196, rfl, H⟩
                                          have gr49 := gr_trans gr48 hg40
                                          have k378 := k371.grown hg40
                                          have k379 := k372.grown hg40
                                          have k380 := k373.g0 hg40
                                          have k381 := k374.g0 hg40
                                          have k382 := k375.grown hg40
                                          have k383 := k376.g0 hg40
                                          have k384 := k377.g0 hg40
                                          refine WJ.yw rfl (wants_some rfl rfl (okb b7)) rfl (fun w' hw' => Yld.pure tab_ok rfl) ?_
                                          refine WJ.y rfl rfl (fun w' hw' => Yld.pickT (okb b7) rfl) ?_
                                          exact WJ.weaken (by repeat (first | exact Sub.nil | refine Sub.cons rfl ?_)) (hQ _ _ ⟨decide (t194 = t196), rfl, H, gr49, k378, k380, k381, k382, k383, k384⟩)
                                        · replace H := H.2 b7
                                          refine WJ.no rfl rfl (okb b7) rfl ?_
                                          refine WJ.no rfl rfl (okb b7) rfl ?_
                                          refine WJ.no rfl rfl (okb b7) rfl ?_
                                          refine WJ.no rfl rfl (okb b7) rfl ?_
                                          refine WJ.no rfl rfl (okb b7) rfl ?_
                                          refine WJ.y rfl rfl (fun w' hw' => Yld.pickF (okb b7) rfl) ?_
                                          exact WJ.weaken (by repeat (first | exact Sub.nil | refine Sub.cons rfl ?_)) (hQ _ _ ⟨false, rfl, H, gr42, k338, k340, k341, k342, k343, k344⟩)
                                    · clear H
                                      rcases Bool.eq_false_or_eq_true (q11 && (decide (t1250 = t1300))) with b8 | b8
                                      · refine WJ.yw rfl (wants_some rfl rfl (okb b8)) rfl (fun w' hw' => Yld.pure tab_ok rfl) ?_
                                        refine WJ.yw rfl (wants_some rfl rfl (okb b8)) rfl (fun w' hw' => Yld.pure tab_ok rfl) ?_
                                        refine WJ.yw rfl (wants_some rfl rfl (okb b8)) rfl (fun w' hw' => Yld.beql Tryd.underlying4 rfl rfl) ?_
                                        refine WJ.y rfl rfl (fun w' hw' => Yld.pickT (okb b8) rfl) ?_
                                        exact WJ.weaken (by repeat (first | exact Sub.nil | refine Sub.cons rfl ?_)) (hQ _ _ ⟨t1251 == t1301, rfl, by rw [b8] <;> rfl, rfl⟩)
                                      · refine WJ.no rfl rfl (okb b8) rfl ?_
                                        refine WJ.no rfl rfl (okb b8) rfl ?_
                                        refine WJ.no rfl rfl (okb b8) rfl ?_
                                        refine WJ.y rfl rfl (fun w' hw' => Yld.pickF (okb b8) rfl) ?_
                                        exact WJ.weaken (by repeat (first | exact Sub.nil | refine Sub.cons rfl ?_)) (hQ _ _ ⟨false, rfl, by rw [b8] <;> rfl, rfl⟩)
                                  · clear H
                                    rcases Bool.eq_false_or_eq_true (q11) with b9 | b9
                                    · refine WJ.yw rfl (wants_some rfl rfl (okb b9)) rfl (fun w' hw' => Yld.pure tab_ok rfl) ?_
                                      refine WJ.yw rfl (wants_some rfl rfl (okb b9)) rfl (fun w' hw' => Yld.pure tab_ok rfl) ?_
                                      refine WJ.yw rfl (wants_some rfl rfl (okb b9)) rfl (fun w' hw' => Yld.pure tab_ok rfl) ?_
                                      refine WJ.y rfl rfl (fun w' hw' => Yld.pickT (okb b9) rfl) ?_
                                      exact WJ.weaken (by repeat (first | exact Sub.nil | refine Sub.cons rfl ?_)) (hQ _ _ ⟨decide (t1250 = t1300), rfl, by rw [b9] <;> rfl, rfl⟩)
                                    · refine WJ.no rfl rfl (okb b9) rfl ?_
                                      refine WJ.no rfl rfl (okb b9) rfl ?_
                                      refine WJ.no rfl rfl (okb b9) rfl ?_
                                      refine WJ.y rfl rfl (fun w' hw' => Yld.pickF (okb b9) rfl) ?_
                                      exact WJ.weaken (by repeat (first | exact Sub.nil | refine Sub.cons rfl ?_)) (hQ _ _ ⟨false, rfl, by rw [b9] <;> rfl, rfl⟩)
                                · clear hJ7
                                  rcases Bool.eq_false_or_eq_true (q10) with b10 | b10
                                  · replace H := H.1 b10
                                    refine WJ.yw rfl (wants_some rfl rfl (okb b10)) rfl (fun w' hw' => Yld.bagg (vs := [v_t460, v_t4602]) tab_ok (hw' rfl).1 rfl rfl rfl rfl) ?_
                                    refine WJ.yw rfl (wants_some rfl rfl (okb b10)) rfl (fun w' hw' => Yld.bagg (vs := [v_t520, v_t5202]) tab_ok (hw' rfl).2.1 rfl rfl rfl rfl) ?_
                                    refine WJ.call rfl (wants_some rfl rfl (okb b10)) rfl rfl (W_num_Num_Cmp k330 k334 H) (fun v w' h w2 e => DD.keep (⟨(Bl.g0 k332 (gr_eqv h.1 e)), (Bl.g0 k336 (gr_eqv h.1 e)), (Bl.g0 k333 (gr_eqv h.1 e)), (Bl.g0 k337 (gr_eqv h.1 e))⟩)) ?_
                                    rintro _ w50 ⟨hg41, t176, rfl, H⟩
                                    have gr50 := gr_trans gr41 hg41
                                    have k385 := k330.grown hg41
                                    have k386 := k331.grown hg41
                                    have k387 := k332.g0 hg41
                                    have k388 := k333.g0 hg41
                                    have k389 := k334.grown hg41
                                    have k390 := k335.grown hg41
                                    have k391 := k336.g0 hg41
                                    have k392 := k337.g0 hg41
                                    refine WJ.yw rfl (wants_some rfl rfl (okb b10)) rfl (fun w' hw' => Yld.bagg (vs := [.bool t461_Neg, .slice A_t461_L t461_L.length c_t461_L]) tab_ok (hw' rfl).2.2.1 rfl rfl rfl rfl) ?_
                                    refine WJ.yw rfl (wants_some rfl rfl (okb b10)) rfl (fun w' hw' => Yld.bagg (vs := [.bool t521_Neg, .slice A_t521_L t521_L.length c_t521_L]) tab_ok (hw' rfl).2.2.2 rfl rfl rfl rfl) ?_
                                    refine WJ.call rfl (wants_some rfl rfl (okb b10)) rfl rfl (W_smithyref9_Num_Cmp k386 rfl k390 rfl H) (fun v w' h w2 e => DD.keep (⟨(Bl.g0 k387 (gr_eqv h.1 e)), (Bl.g0 k391 (gr_eqv h.1 e)), (Bl.g0 k388 (gr_eqv h.1 e)), (Bl.g0 k392 (gr_eqv h.1 e))⟩)) ?_
                                    rintro _ w51 ⟨hg42, t179, rfl, H⟩
                                    have gr51 := gr_trans gr50 hg42
                                    have k393 := k385.grown hg42
                                    have k394 := k386.grown hg42
                                    have k395 := k387.g0 hg42
                                    have k396 := k388.g0 hg42
                                    have k397 := k389.grown hg42
                                    have k398 := k390.grown hg42
                                    have k399 := k391.g0 hg42
                                    have k400 := k392.g0 hg42
                                    refine WJ.yw rfl (wants_some rfl rfl (okb b10)) rfl (fun w' hw' => Yld.pure tab_ok rfl) ?_
                                    refine WJ.y rfl rfl (fun w' hw' => Yld.pickT (okb b10) rfl) ?_
                                    exact WJ.weaken (by repeat (first | exact Sub.nil | refine Sub.cons rfl ?_)) (hQ _ _ ⟨decide (t176 = t179), rfl, H, gr51, k393, k394, k395, k396, k397, k399, k400⟩)
                                  · replace H := H.2 b10
                                    refine WJ.no rfl rfl (okb b10) rfl ?_
                                    refine WJ.no rfl rfl (okb b10) rfl ?_
                                    refine WJ.no rfl rfl (okb b10) rfl ?_
                                    refine WJ.no rfl rfl (okb b10) rfl ?_
                                    refine WJ.no rfl rfl (okb b10) rfl ?_
                                    refine WJ.no rfl rfl (okb b10) rfl ?_
                                    refine WJ.no rfl rfl (okb b10) rfl ?_
                                    refine WJ.y rfl rfl (fun w' hw' => Yld.pickF (okb b10) rfl) ?_
                                    exact WJ.weaken (by repeat (first | exact Sub.nil | refine Sub.cons rfl ?_)) (hQ _ _ ⟨false, rfl, H, gr41, k330, k331, k332, k333, k334, k336, k337⟩)
                              · clear hJ6
                                rcases Bool.eq_false_or_eq_true (q9) with b11 | b11
                                · replace H := H.1 b11
                                  refine WJ.yw rfl (wants_some rfl rfl (okb b11)) rfl (fun w' hw' => Yld.bagg (vs := [v_t460, v_t4602]) tab_ok (hw' rfl).1 rfl rfl rfl rfl) ?_
                                  refine WJ.call rfl (wants_some rfl rfl (okb b11)) rfl rfl (W_num_Num_Neg k322 H) (fun v w' h w2 e => DD.keep (⟨(Bl.g0 k324 (gr_eqv h.1 e)), (Bl.g0 k328 (gr_eqv h.1 e)), (Bl.g0 k325 (gr_eqv h.1 e)), (Bl.g0 k329 (gr_eqv h.1 e))⟩)) ?_
                                  rintro _ w52 ⟨hg43, v_t166, v_t1662, t166, m_t166, rfl, ht166, one_v_t166, one_v_t1662, H⟩
                                  have gr52 := gr_trans gr40 hg43
                                  have k401 := k322.grown hg43
                                  have k402 := k323.grown hg43
                                  have k403 := k324.g0 hg43
                                  have k404 := k325.g0 hg43
                                  have k405 := k326.grown hg43
                                  have k406 := k327.grown hg43
                                  have k407 := k328.g0 hg43
                                  have k408 := k329.g0 hg43
                                  refine WJ.call rfl (wants_some rfl rfl (okb b11)) rfl rfl (W_num_Num_Text ht166 H) (fun v w' h w2 e => DD.keep (⟨(Bl.g0 k403 (gr_eqv h.1 e)), (Bl.g0 k407 (gr_eqv h.1 e)), (Bl.g0 k404 (gr_eqv h.1 e)), (Bl.g0 k408 (gr_eqv h.1 e))⟩)) ?_
                                  rintro _ w53 ⟨hg44, t167, rfl, H⟩
                                  have gr53 := gr_trans gr52 hg44
                                  have k409 := k401.grown hg44
                                  have k410 := k402.grown hg44
                                  have k411 := k403.g0 hg44
                                  have k412 := k404.g0 hg44
                                  have k413 := k405.grown hg44
                                  have k414 := k406.grown hg44
                                  have k415 := k407.g0 hg44
                                  have k416 := k408.g0 hg44
                                  have k417 := ht166.grown hg44
                                  refine WJ.yw rfl (wants_some rfl rfl (okb b11)) rfl (fun w' hw' => Yld.bagg (vs := [.bool t461_Neg, .slice A_t461_L t461_L.length c_t461_L]) tab_ok (hw' rfl).2.2.1 rfl rfl rfl rfl) ?_
                                  refine WJ.call rfl (wants_some rfl rfl (okb b11)) rfl rfl (W_smithyref9_Num_Negate k410 rfl H) (fun v w' h w2 e => DD.keep (⟨(Bl.g0 k411 (gr_eqv h.1 e)), (Bl.g0 k415 (gr_eqv h.1 e)), (Bl.g0 k412 (gr_eqv h.1 e)), (Bl.g0 k416 (gr_eqv h.1 e))⟩)) ?_
                                  rintro _ w54 ⟨hg45, t169_Neg, t169_L, A_t169_L, c_t169_L, rfl, ht169_L, ho7, H⟩
                                  have gr54 := gr_trans gr53 hg45
                                  have k418 := k409.grown hg45
                                  have k419 := k410.grown hg45
                                  have k420 := k411.g0 hg45
                                  have k421 := k412.g0 hg45
                                  have k422 := k413.grown hg45
                                  have k423 := k414.grown hg45
                                  have k424 := k415.g0 hg45
                                  have k425 := k416.g0 hg45
                                  refine WJ.call rfl (wants_some rfl rfl (okb b11)) rfl rfl (W_smithyref9_Num_Text ht169_L rfl H) (fun v w' h w2 e => DD.keep (⟨(Bl.g0 k420 (gr_eqv h.1 e)), (Bl.g0 k424 (gr_eqv h.1 e)), (Bl.g0 k421 (gr_eqv h.1 e)), (Bl.g0 k425 (gr_eqv h.1 e))⟩)) ?_
                                  rintro _ w55 ⟨hg46, t170, rfl, H⟩
                                  have gr55 := gr_trans gr54 hg46
                                  have k426 := k418.grown hg46
                                  have k427 := k419.grown hg46
                                  have k428 := k420.g0 hg46
                                  have k429 := k421.g0 hg46
                                  have k430 := k422.grown hg46
                                  have k431 := k423.grown hg46
                                  have k432 := k424.g0 hg46
                                  have k433 := k425.g0 hg46
                                  have k434 := ht169_L.grown hg46
                                  refine WJ.yw rfl (wants_some rfl rfl (okb b11)) rfl (fun w' hw' => Yld.pure tab_ok rfl) ?_
                                  refine WJ.y rfl rfl (fun w' hw' => Yld.pickT (okb b11) rfl) ?_
                                  exact WJ.weaken (by repeat (first | exact Sub.nil | refine Sub.cons rfl ?_)) (hQ _ _ ⟨decide (t167 = t170), rfl, H, gr55, k426, k427, k428, k429, k430, k431, k432, k433⟩)
                                · replace H := H.2 b11
                                  refine WJ.no rfl rfl (okb b11) rfl ?_
                                  refine WJ.no rfl rfl (okb b11) rfl ?_
                                  refine WJ.no rfl rfl (okb b11) rfl ?_
                                  refine WJ.no rfl rfl (okb b11) rfl ?_
                                  refine WJ.no rfl rfl (okb b11) rfl ?_
                                  refine WJ.no rfl rfl (okb b11) rfl ?_
                                  refine WJ.no rfl rfl (okb b11) rfl ?_
                                  refine WJ.y rfl rfl (fun w' hw' => Yld.pickF (okb b11) rfl) ?_
                                  exact WJ.weaken (by repeat (first | exact Sub.nil | refine Sub.cons rfl ?_)) (hQ _ _ ⟨false, rfl, H, gr40, k322, k323, k324, k325, k326, k327, k328, k329⟩)
                            · clear hJ5
                              rcases Bool.eq_false_or_eq_true (q8) with b12 | b12
                              · replace H := H.1 b12
                                refine WJ.yw rfl (wants_some rfl rfl (okb b12)) rfl (fun w' hw' => Yld.bagg (vs := [v_t460, v_t4602]) tab_ok (hw' rfl).1 rfl rfl rfl rfl) ?_
                                refine WJ.yw rfl (wants_some rfl rfl (okb b12)) rfl (fun w' hw' => Yld.bagg (vs := [v_t520, v_t5202]) tab_ok (hw' rfl).2.1 rfl rfl rfl rfl) ?_
                                refine WJ.call rfl (wants_some rfl rfl (okb b12)) rfl rfl (W_num_Num_Mul k314 k318 H) (fun v w' h w2 e => DD.keep (⟨(Bl.g0 k316 (gr_eqv h.1 e)), (Bl.g0 k320 (gr_eqv h.1 e)), (Bl.g0 k317 (gr_eqv h.1 e)), (Bl.g0 k321 (gr_eqv h.1 e))⟩)) ?_
                                rintro _ w56 ⟨hg47, v_t156, v_t1562, t156, m_t156, rfl, ht156, one_v_t156, one_v_t1562, H⟩
                                have gr56 := gr_trans gr39 hg47
                                have k435 := k314.grown hg47
                                have k436 := k315.grown hg47
                                have k437 := k316.g0 hg47
                                have k438 := k317.g0 hg47
                                have k439 := k318.grown hg47
                                have k440 := k319.grown hg47
                                have k441 := k320.g0 hg47
                                have k442 := k321.g0 hg47
                                refine WJ.call rfl (wants_some rfl rfl (okb b12)) rfl rfl (W_num_Num_Text ht156 H) (fun v w' h w2 e => DD.keep (⟨(Bl.g0 k437 (gr_eqv h.1 e)), (Bl.g0 k441 (gr_eqv h.1 e)), (Bl.g0 k438 (gr_eqv h.1 e)), (Bl.g0 k442 (gr_eqv h.1 e))⟩)) ?_
                                rintro _ w57 ⟨hg48, t157, rfl, H⟩
                                have gr57 := gr_trans gr56 hg48
                                have k443 := k435.grown hg48
                                have k444 := k436.grown hg48
                                have k445 := k437.g0 hg48
                                have k446 := k438.g0 hg48
                                have k447 := k439.grown hg48
                                have k448 := k440.grown hg48
                                have k449 := k441.g0 hg48
                                have k450 := k442.g0 hg48
                                have k451 := ht156.grown hg48
                                refine WJ.yw rfl (wants_some rfl rfl (okb b12)) rfl (fun w' hw' => Yld.bagg (vs := [.bool t461_Neg, .slice A_t461_L t461_L.length c_t461_L]) tab_ok (hw' rfl).2.2.1 rfl rfl rfl rfl) ?_
                                refine WJ.yw rfl (wants_some rfl rfl (okb b12)) rfl (fun w' hw' => Yld.bagg (vs := [.bool t521_Neg, .slice A_t521_L t521_L.length c_t521_L]) tab_ok (hw' rfl).2.2.2 rfl rfl rfl rfl) ?_
                                refine WJ.call rfl (wants_some rfl rfl (okb b12)) rfl rfl (W_smithyref9_Num_Mul k444 rfl k448 rfl H) (fun v w' h w2 e => DD.keep (⟨(Bl.g0 k445 (gr_eqv h.1 e)), (Bl.g0 k449 (gr_eqv h.1 e)), (Bl.g0 k446 (gr_eqv h.1 e)), (Bl.g0 k450 (gr_eqv h.1 e))⟩)) ?_
                                rintro _ w58 ⟨hg49, t160_Neg, t160_L, A_t160_L, c_t160_L, rfl, ht160_L, ho8, H⟩
                                have gr58 := gr_trans gr57 hg49
                                have k452 := k443.grown hg49
                                have k453 := k444.grown hg49
                                have k454 := k445.g0 hg49
                                have k455 := k446.g0 hg49
                                have k456 := k447.grown hg49
                                have k457 := k448.grown hg49
                                have k458 := k449.g0 hg49
                                have k459 := k450.g0 hg49
                                refine WJ.call rfl (wants_some rfl rfl (okb b12)) rfl rfl (W_smithyref9_Num_Text ht160_L rfl H) (fun v w' h w2 e => DD.keep (⟨(Bl.g0 k454 (gr_eqv h.1 e)), (Bl.g0 k458 (gr_eqv h.1 e)), (Bl.g0 k455 (gr_eqv h.1 e)), (Bl.g0 k459 (gr_eqv h.1 e))⟩)) ?_
                                rintro _ w59 ⟨hg50, t161, rfl, H⟩
                                have gr59 := gr_trans gr58 hg50
                                have k460 := k452.grown hg50
                                have k461 := k453.grown hg50
                                have k462 := k454.g0 hg50
                                have k463 := k455.g0 hg50
                                have k464 := k456.grown hg50
                                have k465 := k457.grown hg50
                                have k466 := k458.g0 hg50
                                have k467 := k459.g0 hg50
                                have k468 := ht160_L.grown hg50
                                refine WJ.yw rfl (wants_some rfl rfl (okb b12)) rfl (fun w' hw' => Yld.pure tab_ok rfl) ?_
                                refine WJ.y rfl rfl (fun w' hw' => Yld.pickT (okb b12) rfl) ?_
                                exact WJ.weaken (by repeat (first | exact Sub.nil | refine Sub.cons rfl ?_)) (hQ _ _ ⟨decide (t157 = t161), rfl, H, gr59, k460, k461, k462, k463, k464, k465, k466, k467⟩)
                              · replace H := H.2 b12
                                refine WJ.no rfl rfl (okb b12) rfl ?_
                                refine WJ.no rfl rfl (okb b12) rfl ?_
                                refine WJ.no rfl rfl (okb b12) rfl ?_
                                refine WJ.no rfl rfl (okb b12) rfl ?_
                                refine WJ.no rfl rfl (okb b12) rfl ?_
                                refine WJ.no rfl rfl (okb b12) rfl ?_
                                refine WJ.no rfl rfl (okb b12) rfl ?_
                                refine WJ.no rfl rfl (okb b12) rfl ?_
                                refine WJ.no rfl rfl (okb b12) rfl ?_
                                refine WJ.y rfl rfl (fun w' hw' => Yld.pickF (okb b12) rfl) ?_
                                exact WJ.weaken (by repeat (first | exact Sub.nil | refine Sub.cons rfl ?_)) (hQ _ _ ⟨false, rfl, H, gr39, k314, k315, k316, k317, k318, k319, k320, k321⟩)
                          · clear hJ4
                            rcases Bool.eq_false_or_eq_true (decide (t136 = t140)) with b13 | b13
                            · replace H := H.1 b13
                              refine WJ.yw rfl (wants_some rfl rfl (okb b13)) rfl (fun w' hw' => Yld.bagg (vs := [v_t460, v_t4602]) tab_ok (hw' rfl).1 rfl rfl rfl rfl) ?_
                              refine WJ.yw rfl (wants_some rfl rfl (okb b13)) rfl (fun w' hw' => Yld.bagg (vs := [v_t520, v_t5202]) tab_ok (hw' rfl).2.1 rfl rfl rfl rfl) ?_
                              refine WJ.call rfl (wants_some rfl rfl (okb b13)) rfl rfl (W_num_Num_Sub k306 k310 H) (fun v w' h w2 e => DD.keep (⟨(Bl.g0 k308 (gr_eqv h.1 e)), (Bl.g0 k312 (gr_eqv h.1 e)), (Bl.g0 k309 (gr_eqv h.1 e)), (Bl.g0 k313 (gr_eqv h.1 e))⟩)) ?_
                              rintro _ w60 ⟨hg51, v_t145, v_t1452, t145, m_t145, rfl, ht145, one_v_t145, one_v_t1452, H⟩
                              have gr60 := gr_trans gr38 hg51
                              have k469 := k306.grown hg51
                              have k470 := k307.grown hg51
                              have k471 := k308.g0 hg51
                              have k472 := k309.g0 hg51
                              have k473 := k310.grown hg51
                              have k474 := k311.grown hg51
                              have k475 := k312.g0 hg51
                              have k476 := k313.g0 hg51
                              refine WJ.call rfl (wants_some rfl rfl (okb b13)) rfl rfl (W_num_Num_Text ht145 H) (fun v w' h w2 e => DD.keep (⟨(Bl.g0 k471 (gr_eqv h.1 e)), (Bl.g0 k475 (gr_eqv h.1 e)), (Bl.g0 k472 (gr_eqv h.1 e)), (Bl.g0 k476 (gr_eqv h.1 e))⟩)) ?_
                              rintro _ w61 ⟨hg52, t146, rfl, H⟩
                              have gr61 := gr_trans gr60 hg52
                              have k477 := k469.grown hg52
                              have k478 := k470.grown hg52
                              have k479 := k471.g0 hg52
                              have k480 := k472.g0 hg52
                              have k481 := k473.grown hg52
                              have k482 := k474.grown hg52
                              have k483 := k475.g0 hg52
                              have k484 := k476.g0 hg52
                              have k485 := ht145.grown hg52
                              refine WJ.yw rfl (wants_some rfl rfl (okb b13)) rfl (fun w' hw' => Yld.bagg (vs := [.bool t461_Neg, .slice A_t461_L t461_L.length c_t461_L]) tab_ok (hw' rfl).2.2.1 rfl rfl rfl rfl) ?_
                              refine WJ.yw rfl (wants_some rfl rfl (okb b13)) rfl (fun w' hw' => Yld.bagg (vs := [.bool t521_Neg, .slice A_t521_L t521_L.length c_t521_L]) tab_ok (hw' rfl).2.2.2 rfl rfl rfl rfl) ?_
                              refine WJ.call rfl (wants_some rfl rfl (okb b13)) rfl rfl (W_smithyref9_Num_Sub k478 rfl k482 rfl H) (fun v w' h w2 e => DD.keep (⟨(Bl.g0 k479 (gr_eqv h.1 e)), (Bl.g0 k483 (gr_eqv h.1 e)), (Bl.g0 k480 (gr_eqv h.1 e)), (Bl.g0 k484 (gr_eqv h.1 e))⟩)) ?_
                              rintro _ w62 ⟨hg53, t149_Neg, t149_L, A_t149_L, c_t149_L, rfl, ht149_L, ho9, H⟩
                              have gr62 := gr_trans gr61 hg53
                              have k486 := k477.grown hg53
                              have k487 := k478.grown hg53
                              have k488 := k479.g0 hg53
                              have k489 := k480.g0 hg53
                              have k490 := k481.grown hg53
                              have k491 := k482.grown hg53
                              have k492 := k483.g0 hg53
                              have k493 := k484.g0 hg53
                              refine WJ.call rfl (wants_some rfl rfl (okb b13)) rfl rfl (W_smithyref9_Num_Text ht149_L rfl H) (fun v w' h w2 e => DD.keep (⟨(Bl.g0 k488 (gr_eqv h.1 e)), (Bl.g0 k492 (gr_eqv h.1 e)), (Bl.g0 k489 (gr_eqv h.1 e)), (Bl.g0 k493 (gr_eqv h.1 e))⟩)) ?_
                              rintro _ w63 ⟨hg54, t150, rfl, H⟩
                              have gr63 := gr_trans gr62 hg54
                              have k494 := k486.grown hg54
                              have k495 := k487.grown hg54
                              have k496 := k488.g0 hg54
                              have k497 := k489.g0 hg54
                              have k498 := k490.grown hg54
                              have k499 := k491.grown hg54
                              have k500 := k492.g0 hg54
                              have k501 := k493.g0 hg54
                              have k502 := ht149_L.grown hg54
                              refine WJ.yw rfl (wants_some rfl rfl (okb b13)) rfl (fun w' hw' => Yld.pure tab_ok rfl) ?_
                              refine WJ.y rfl rfl (fun w' hw' => Yld.pickT (okb b13) rfl) ?_
                              exact WJ.weaken (by repeat (first | exact Sub.nil | refine Sub.cons rfl ?_)) (hQ _ _ ⟨decide (t146 = t150), rfl, H, gr63, k494, k495, k496, k497, k498, k499, k500, k501⟩)
                            · replace H := H.2 b13
                              refine WJ.no rfl rfl (okb b13) rfl ?_
                              refine WJ.no rfl rfl (okb b13) rfl ?_
                              refine WJ.no rfl rfl (okb b13) rfl ?_
                              refine WJ.no rfl rfl (okb b13) rfl ?_
                              refine WJ.no rfl rfl (okb b13) rfl ?_
                              refine WJ.no rfl rfl (okb b13) rfl ?_
                              refine WJ.no rfl rfl (okb b13) rfl ?_
                              refine WJ.no rfl rfl (okb b13) rfl ?_
                              refine WJ.no rfl rfl (okb b13) rfl ?_
                              refine WJ.y rfl rfl (fun w' hw' => Yld.pickF (okb b13) rfl) ?_
                              exact WJ.weaken (by repeat (first | exact Sub.nil | refine Sub.cons rfl ?_)) (hQ _ _ ⟨false, rfl, H, gr38, k306, k307, k308, k309, k310, k311, k312, k313⟩)
                      · clear hJ3
                        rcases Bool.eq_false_or_eq_true (q6) with b14 | b14
                        · replace H := H.1 b14
                          refine WJ.no rfl rfl (okb b14) rfl ?_
                          refine WJ.no rfl rfl (okb b14) rfl ?_
                          refine WJ.no rfl rfl (okb b14) rfl ?_
                          refine WJ.no rfl rfl (okb b14) rfl ?_
                          refine WJ.no rfl rfl (okb b14) rfl ?_
                          refine WJ.y rfl rfl (fun w' hw' => Yld.pickT (okb b14) rfl) ?_
                          exact WJ.weaken (by repeat (first | exact Sub.nil | refine Sub.cons rfl ?_)) (hQ _ _ ⟨true, rfl, H, gr31, k240, k241, k242, k243, k244, k245, k246, k247, k249, k250, k251, k253⟩)
                        · replace H := H.2 b14
                          refine WJ.yw rfl (wants_some rfl rfl (okb b14)) rfl (fun w' hw' => Yld.bagg (vs := [v_t980, v_t9802]) tab_ok (hw' rfl).1 rfl rfl rfl rfl) ?_
                          refine WJ.call rfl (wants_some rfl rfl (okb b14)) rfl rfl (W_num_Num_Text k252 H) (fun v w' h w2 e => DD.keep (⟨(Bl.g0 k253 (gr_eqv h.1 e)), (Bl.g0 k250 (gr_eqv h.1 e)), (Bl.g0 k251 (gr_eqv h.1 e)), (Bl.g0 k249 (gr_eqv h.1 e))⟩)) ?_
                          rintro _ w64 ⟨hg55, t118, rfl, H⟩
                          have gr64 := gr_trans gr31 hg55
                          have k503 := k240.grown hg55
                          have k504 := k241.grown hg55
                          have k505 := k242.g0 hg55
                          have k506 := k243.g0 hg55
                          have k507 := k244.grown hg55
                          have k508 := k245.grown hg55
                          have k509 := k246.g0 hg55
                          have k510 := k247.g0 hg55
                          have k511 := k248.grown hg55
                          have k512 := k249.g0 hg55
                          have k513 := k250.g0 hg55
                          have k514 := k251.g0 hg55
                          have k515 := k252.grown hg55
                          have k516 := k253.g0 hg55
                          refine WJ.yw rfl (wants_some rfl rfl (okb b14)) rfl (fun w' hw' => Yld.bagg (vs := [.bool t851_Neg, .slice A_t851_L t851_L.length c_t851_L]) tab_ok (hw' rfl).2.1 rfl rfl rfl rfl) ?_
                          refine WJ.call rfl (wants_some rfl rfl (okb b14)) rfl rfl (W_smithyref9_Num_Text k511 rfl H) (fun v w' h w2 e => DD.keep (⟨(Bl.g0 k516 (gr_eqv h.1 e)), (Bl.g0 k513 (gr_eqv h.1 e)), (Bl.g0 k514 (gr_eqv h.1 e)), (Bl.g0 k512 (gr_eqv h.1 e))⟩)) ?_
                          rintro _ w65 ⟨hg56, t120, rfl, H⟩
                          have gr65 := gr_trans gr64 hg56
                          have k517 := k503.grown hg56
                          have k518 := k504.grown hg56
                          have k519 := k505.g0 hg56
                          have k520 := k506.g0 hg56
                          have k521 := k507.grown hg56
                          have k522 := k508.grown hg56
                          have k523 := k509.g0 hg56
                          have k524 := k510.g0 hg56
                          have k525 := k511.grown hg56
                          have k526 := k512.g0 hg56
                          have k527 := k513.g0 hg56
                          have k528 := k514.g0 hg56
                          have k529 := k516.g0 hg56
                          refine WJ.yw rfl (wants_some rfl rfl (okb b14)) rfl (fun w' hw' => Yld.pure tab_ok rfl) ?_
                          refine WJ.y rfl rfl (fun w' hw' => Yld.pickF (okb b14) rfl) ?_
                          exact WJ.weaken (by repeat (first | exact Sub.nil | refine Sub.cons rfl ?_)) (hQ _ _ ⟨!decide (t118 = t120), rfl, H, gr65, k517, k518, k519, k520, k521, k522, k523, k524, k526, k527, k528, k529⟩)
                    · clear hJ2
                      rcases Bool.eq_false_or_eq_true ((!(t921 == t852)) || (!(t981 == t852))) with b15 | b15
                      · replace H := H.1 b15
                        refine WJ.no rfl rfl (okb b15) rfl ?_
                        refine WJ.no rfl rfl (okb b15) rfl ?_
                        refine WJ.no rfl rfl (okb b15) rfl ?_
                        refine WJ.no rfl rfl (okb b15) rfl ?_
                        refine WJ.no rfl rfl (okb b15) rfl ?_
                        refine WJ.y rfl rfl (fun w' hw' => Yld.pickT (okb b15) rfl) ?_
                        exact WJ.weaken (by repeat (first | exact Sub.nil | refine Sub.cons rfl ?_)) (hQ _ _ ⟨true, rfl, H, gr30, k225, k226, k227, k228, k229, k230, k231, k232, k234, k235, k236, k238, k239, hB20⟩)
                      · replace H := H.2 b15
                        refine WJ.yw rfl (wants_some rfl rfl (okb b15)) rfl (fun w' hw' => Yld.bagg (vs := [v_t920, v_t9202]) tab_ok (hw' rfl).2.2.1 rfl rfl rfl rfl) ?_
                        refine WJ.call rfl (wants_some rfl rfl (okb b15)) rfl rfl (W_num_Num_Text k237 H) (fun v w' h w2 e => DD.keep (⟨(Bl.g0 hB20 (gr_eqv h.1 e)), (Bl.g0 k236 (gr_eqv h.1 e)), (Bl.g0 k238 (gr_eqv h.1 e)), (Bl.g0 k235 (gr_eqv h.1 e))⟩)) ?_
                        rintro _ w66 ⟨hg57, t111, rfl, H⟩
                        have gr66 := gr_trans gr30 hg57
                        have k530 := k225.grown hg57
                        have k531 := k226.grown hg57
                        have k532 := k227.g0 hg57
                        have k533 := k228.g0 hg57
                        have k534 := k229.grown hg57
                        have k535 := k230.grown hg57
                        have k536 := k231.g0 hg57
                        have k537 := k232.g0 hg57
                        have k538 := k233.grown hg57
                        have k539 := k234.grown hg57
                        have k540 := k235.g0 hg57
                        have k541 := k236.g0 hg57
                        have k542 := k237.grown hg57
                        have k543 := k238.g0 hg57
                        have k544 := k239.grown hg57
                        have k545 := hB20.g0 hg57
                        refine WJ.yw rfl (wants_some rfl rfl (okb b15)) rfl (fun w' hw' => Yld.bagg (vs := [.bool t850_Neg, .slice A_t850_L t850_L.length c_t850_L]) tab_ok (hw' rfl).2.2.2 rfl rfl rfl rfl) ?_
                        refine WJ.call rfl (wants_some rfl rfl (okb b15)) rfl rfl (W_smithyref9_Num_Text k538 rfl H) (fun v w' h w2 e => DD.keep (⟨(Bl.g0 k545 (gr_eqv h.1 e)), (Bl.g0 k541 (gr_eqv h.1 e)), (Bl.g0 k543 (gr_eqv h.1 e)), (Bl.g0 k540 (gr_eqv h.1 e))⟩)) ?_
                        rintro _ w67 ⟨hg58, t113, rfl, H⟩
                        have gr67 := gr_trans gr66 hg58
                        have k546 := k530.grown hg58
                        have k547 := k531.grown hg58
                        have k548 := k532.g0 hg58
                        have k549 := k533.g0 hg58
                        have k550 := k534.grown hg58
                        have k551 := k535.grown hg58
                        have k552 := k536.g0 hg58
                        have k553 := k537.g0 hg58
                        have k554 := k538.grown hg58
                        have k555 := k539.grown hg58
                        have k556 := k540.g0 hg58
                        have k557 := k541.g0 hg58
                        have k558 := k543.g0 hg58
                        have k559 := k544.grown hg58
                        have k560 := k545.g0 hg58
                        refine WJ.yw rfl (wants_some rfl rfl (okb b15)) rfl (fun w' hw' => Yld.pure tab_ok rfl) ?_
                        refine WJ.y rfl rfl (fun w' hw' => Yld.pickF (okb b15) rfl) ?_
                        exact WJ.weaken (by repeat (first | exact Sub.nil | refine Sub.cons rfl ?_)) (hQ _ _ ⟨!decide (t111 = t113), rfl, H, gr67, k546, k547, k548, k549, k550, k551, k552, k553, k555, k556, k557, k558, k559, k560⟩)
                  · clear H
                    rcases Bool.eq_false_or_eq_true (!(t921 == t852)) with b16 | b16
                    · refine WJ.no rfl rfl (okb b16) rfl ?_
                      refine WJ.no rfl rfl (okb b16) rfl ?_
                      refine WJ.no rfl rfl (okb b16) rfl ?_
                      refine WJ.y rfl rfl (fun w' hw' => Yld.pickT (okb b16) rfl) ?_
                      exact WJ.weaken (by repeat (first | exact Sub.nil | refine Sub.cons rfl ?_)) (hQ _ _ ⟨true, rfl, by rw [b16] <;> rfl, rfl⟩)
                    · refine WJ.yw rfl (wants_some rfl rfl (okb b16)) rfl (fun w' hw' => Yld.pure tab_ok rfl) ?_
                      refine WJ.yw rfl (wants_some rfl rfl (okb b16)) rfl (fun w' hw' => Yld.pure tab_ok rfl) ?_
                      refine WJ.yw rfl (wants_some rfl rfl (okb b16)) rfl (fun w' hw' => Yld.bneq Tryd.underlying4 rfl rfl) ?_
                      refine WJ.y rfl rfl (fun w' hw' => Yld.pickF (okb b16) rfl) ?_
                      exact WJ.weaken (by repeat (first | exact Sub.nil | refine Sub.cons rfl ?_)) (hQ _ _ ⟨!(t981 == t852), rfl, by rw [b16] <;> rfl, rfl⟩)
              · clear H
                rcases Bool.eq_false_or_eq_true ((!t69) || (!t462)) with b17 | b17
                · refine WL.gno rfl rfl (okb b17) rfl ?_
                  refine WL.gno rfl rfl (okb b17) rfl ?_
                  refine WL.y rfl (Yld.pickT (okb b17) rfl) ?_
                  exact WL.weaken (by repeat (first | exact Sub.nil | refine Sub.cons rfl ?_)) (hQ _ _ ⟨true, rfl, by rw [b17] <;> rfl, rfl⟩)
                · refine WL.gyes rfl rfl (okb b17) rfl (Yld.pure tab_ok rfl) ?_
                  refine WL.gyes rfl rfl (okb b17) rfl (Yld.pure tab_ok rfl) ?_
                  refine WL.y rfl (Yld.pickF (okb b17) rfl) ?_
                  exact WL.weaken (by repeat (first | exact Sub.nil | refine Sub.cons rfl ?_)) (hQ _ _ ⟨!t522, rfl, by rw [b17] <;> rfl, rfl⟩)
            · clear H
              rcases Bool.eq_false_or_eq_true (!t69) with b18 | b18
              · refine WL.gno rfl rfl (okb b18) rfl ?_
                refine WL.gno rfl rfl (okb b18) rfl ?_
                refine WL.y rfl (Yld.pickT (okb b18) rfl) ?_
                exact WL.weaken (by repeat (first | exact Sub.nil | refine Sub.cons rfl ?_)) (hQ _ _ ⟨true, rfl, by rw [b18] <;> rfl, rfl⟩)
              · refine WL.gyes rfl rfl (okb b18) rfl (Yld.pure tab_ok rfl) ?_
                refine WL.gyes rfl rfl (okb b18) rfl (Yld.pure tab_ok rfl) ?_
                refine WL.y rfl (Yld.pickF (okb b18) rfl) ?_
                exact WL.weaken (by repeat (first | exact Sub.nil | refine Sub.cons rfl ?_)) (hQ _ _ ⟨!t462, rfl, by rw [b18] <;> rfl, rfl⟩)
          · clear hJ1
            refine WC.seq ?_
            refine WC.region ?_
            refine WL.y rfl (Yld.pure tab_ok rfl) ?_
            refine WL.nil (WX.then_normal ?_)
            refine WC.cond rfl (fun b19 => ?_) (fun b19 => ?_)
            · replace H := H.1 (b19)
              refine WC.region ?_
              refine WL.y rfl (Yld.pure tab_ok rfl) ?_
              refine WL.nil ?_
              exact WX.weaken (by repeat (first | exact Sub.nil | refine Sub.cons rfl ?_)) (hQ _ _ ⟨(0 : Int), rfl, H, rfl⟩)
            · replace H := H.2 (b19)
              refine WC.skip ?_
              exact WX.weaken (by repeat (first | exact Sub.nil | refine Sub.cons rfl ?_)) (hQ _ _ ⟨(113 : Int), rfl, H, rfl⟩)
      · clear H
        rcases Bool.eq_false_or_eq_true ((decide ((300 : Int) < (s.length : Int))) || (decide ((300 : Int) < (t.length : Int)))) with b20 | b20
        · refine WL.gno rfl rfl (okb b20) rfl ?_
          refine WL.gno rfl rfl (okb b20) rfl ?_
          refine WL.y rfl (Yld.pickT (okb b20) rfl) ?_
          exact WL.weaken (by repeat (first | exact Sub.nil | refine Sub.cons rfl ?_)) (hQ _ _ ⟨true, rfl, by rw [b20] <;> rfl, rfl⟩)
        · refine WL.gyes rfl rfl (okb b20) rfl (Yld.pure tab_ok rfl) ?_
          refine WL.gyes rfl rfl (okb b20) rfl (Yld.pure tab_ok rfl) ?_
          refine WL.y rfl (Yld.pickF (okb b20) rfl) ?_
          exact WL.weaken (by repeat (first | exact Sub.nil | refine Sub.cons rfl ?_)) (hQ _ _ ⟨!ok, rfl, by rw [b20] <;> rfl, rfl⟩)
    · clear H
      rcases Bool.eq_false_or_eq_true (decide ((300 : Int) < (s.length : Int))) with b21 | b21
      · refine WL.gno rfl rfl (okb b21) rfl ?_
        refine WL.gno rfl rfl (okb b21) rfl ?_
        refine WL.gno rfl rfl (okb b21) rfl ?_
        refine WL.y rfl (Yld.pickT (okb b21) rfl) ?_
        exact WL.weaken (by repeat (first | exact Sub.nil | refine Sub.cons rfl ?_)) (hQ _ _ ⟨true, rfl, by rw [b21] <;> rfl, rfl⟩)
      · refine WL.gyes rfl rfl (okb b21) rfl (Yld.pure tab_ok rfl) ?_
        refine WL.gyes rfl rfl (okb b21) rfl (Yld.pure tab_ok rfl) ?_
        refine WL.gyes rfl rfl (okb b21) rfl (Yld.pure tab_ok rfl) ?_
        refine WL.y rfl (Yld.pickF (okb b21) rfl) ?_
        exact WL.weaken (by repeat (first | exact Sub.nil | refine Sub.cons rfl ?_)) (hQ _ _ ⟨decide ((300 : Int) < (t.length : Int)), rfl, by rw [b21] <;> rfl, rfl⟩)

end Go.Proofs.YtilphcippnfklaaDoor
 /- smithysee.Is, plainly. -/
namespace Go.Proofs.YtilphcippnfklaaDoor
open Go Go.RowKit
def isB : Er → Int → Bool
  | .ok, c => decide (0 = c)
  | .e n, c => decide (101 + (n : Int) = c)
  | .at_ _ _, _ => false
theorem is_M {e : Er} {code : Int} {K : Bool → Prop} (h : K (isB e code)) : M_smithysee_Is e code K := by
  unfold M_smithysee_Is M_smithyref_Bare M_smithysee_Same M_smithysee_Fault M_smithyref_None M_smithyref_SameFault M_smithysee_placed M_smithysee_sentinel M_smithyref_Bare M_smithyref_Placed M_smithyref_None
  cases e with
  | ok => refine ⟨fun _ => ?_, fun h2 => absurd rfl h2⟩; exact (congrArg K (show isB .ok code = _ by simp [isB])).mp h
  | e n => refine ⟨fun h2 => (by cases h2), fun _ => ⟨fun p m h2 => (by cases h2), fun _ => ?_⟩⟩; exact (congrArg K (show isB (.e n) code = _ by rw [Bool.eq_iff_iff]; simp [isB, sentV]; exact decide_eq_true_iff.symm)).mp h
  | at_ p n =>
    refine ⟨fun h2 => (by cases h2), fun _ => ⟨fun p' m h2 => ?_, fun h2 => absurd rfl (h2 p n)⟩⟩
    cases h2
    refine ⟨fun h2 => (by simp at h2), fun _ => ⟨fun h2 => (by simp only [sentV] at h2; omega), fun _ => ?_⟩⟩
    exact (congrArg K (show isB (.at_ p n) code = _ by simp [isB])).mp h
end Go.Proofs.YtilphcippnfklaaDoor
 /- NumSays, plainly. -/
namespace Go.Proofs.YtilphcippnfklaaDoor
open Go Go.RowKit
theorem nparse_ok {s : List UInt8} {K : Int → Nat → Er → Prop} (hs : s.length ≤ maxLen) (h1 : shape s = true) (h2 : (cutm s).length ≤ 2400) (h : K (sval s) (cutm s).length .ok) : M_num_Parse s K :=
  ⟨hs, fun _ _ => h, fun _ h3 => absurd h2 (by omega), fun h3 => by rw [h1] at h3; cases h3⟩
theorem nparse_bad {s : List UInt8} {K : Int → Nat → Er → Prop} (hs : s.length ≤ maxLen) (h1 : shape s = false) (h : K 0 0 (.e 12)) : M_num_Parse s K :=
  ⟨hs, fun h3 => (by rw [h1] at h3; cases h3), fun h3 => (by rw [h1] at h3; cases h3), fun _ => h⟩
theorem cutm_le (s : List UInt8) : (cutm s).length ≤ s.length := by
  unfold cutm
  split
  · rw [List.length_drop]; omega
  · exact Nat.le_refl _
theorem parsed_M {s : List UInt8} {K : Int → Nat → Bool → List Int → Bool → Prop} (hs : s.length ≤ 300) (hok : shape s = true → ∀ n L, RN n L (sval s) 300 → K (sval s) (cutm s).length n L true) (hbad : shape s = false → K 0 0 false [] false) : M_smithylaw9_parsed s K := by
  have hc := cutm_le s
  have hm : s.length ≤ maxLen := by simp only [maxLen]; omega
  cases hS : shape s with
  | true =>
    refine nparse_ok hm hS (by omega) (rparse_M hs (by omega) (fun _ n L hN => ?_) (fun h => by rw [hS] at h; cases h))
    have := hok hS n L hN
    simpa using this
  | false =>
    refine nparse_bad hm hS (rparse_M (m := 300) hs (by omega) (fun h => by rw [hS] at h; cases h) (fun _ => ?_))
    have := hbad hS
    simpa using this
theorem both_int {s : Bool} {a : List Int} {x : Int} {m k : Nat} {K : Int → Bool → Int → Bool → Prop} (h : RN s a x m) (hm : 5 ≤ m ∧ m ≤ 4000) (hk : k ≤ 90000) (H : ∀ n b, K n b n b) : M_num_Num_Int x k (fun n b => M_smithyref9_Num_Int s a (fun n' b' => K n b n' b')) :=
  ⟨hk, fun h1 => rint_M h hm (fun _ => H _ _) (fun h2 => absurd h1 h2), fun h1 => rint_M h hm (fun h2 => absurd h2 h1) (fun _ => H _ _)⟩
theorem nfirst_M {K : Bool → Prop} (h : K true) : M_smithylaw9_first K := h
theorem says_num {s t : List UInt8} {K : Bool → Prop} (_ : s.length ≤ maxLen) (_ : t.length ≤ maxLen) (H : K true) : M_smithylaw9_NumSays s t K := by
  refine nfirst_M ⟨fun h => (by simp at h), fun _ => ⟨fun _ => H, fun hb => ?_⟩⟩
  have hl : s.length ≤ 300 ∧ t.length ≤ 300 := by simp at hb; omega
  obtain ⟨l1, l2⟩ := hl
  have m1 : s.length ≤ maxLen := by simp only [maxLen]; omega
  have c1 := cutm_le s
  have c2 := cutm_le t
  cases hS : shape s with
  | false =>
    refine parsed_M l1 (fun h => by rw [hS] at h; cases h) fun _ => parsed_M l2 (fun _ n L hN => ?_) (fun _ => ?_)
    all_goals
      refine nparse_bad m1 hS (rparse_M (m := 300) l1 (by omega) (fun h => by rw [hS] at h; cases h) (fun _ => ⟨fun d => d = 113, ⟨fun h => (by cases h), fun _ => rfl⟩, ?_⟩))
      rintro _ rfl
      refine is_M ⟨fun _ => is_M H, fun h => ?_⟩
      simp at h
  | true =>
    refine parsed_M l1 (fun _ na a hA => ?_) fun h => (by rw [hS] at h; cases h)
    refine parsed_M l2 (fun hT nb b hB => ?_) (fun hT => ?_)
    · refine nparse_ok m1 hS (by omega) (rparse_M (m := 300) l1 (by omega) (fun _ n L _ => ⟨fun d => d = 0, ⟨fun _ => rfl, fun h => (by cases h)⟩, ?_⟩) (fun h => by rw [hS] at h; cases h))
      rintro _ rfl
      refine is_M ⟨fun h => (by simp [isB] at h), fun _ => ?_⟩
      have hx := txt_sval hS
      have hy := txt_sval hT
      generalize sval s = x at *
      generalize sval t = y at *
      generalize (cutm s).length = mx at *
      generalize (cutm t).length = my at *
      refine divmod_all hA hB (by omega) fun nq Q q nr R r hQ hR hf hz => ⟨by omega, fun z f1 f2 => ⟨by omega, fun z' g1 g2 => ?_⟩⟩
      have e1 : z = q ∧ z' = r := by
        by_cases h0 : y = 0
        · have := hz h0
          have := f2 h0
          have := g2 h0
          omega
        · obtain ⟨r', hr'⟩ := f1 h0
          obtain ⟨q', hq'⟩ := g1 h0
          exact ⟨(Floor.unique hr' (hf h0)).1, (Floor.unique hq' (hf h0)).2⟩
      obtain ⟨rfl, rfl⟩ := e1
      refine ⟨fun q => q = false, ⟨fun h => (by simp at h), fun _ => ⟨by omega, rtext_M hQ (by omega) (by simp)⟩⟩, ?_⟩
      rintro _ rfl
      refine ⟨fun q => q = false, ⟨fun h => (by cases h), fun _ => ⟨by omega, rtext_M hR (by omega) (by simp)⟩⟩, ?_⟩
      rintro _ rfl
      refine ⟨fun h => (by cases h), fun _ => both_int hA (by omega) (by omega) fun n fits => ?_⟩
      refine ⟨by omega, by omega, add_M hA hB (by omega) fun n1 L1 h1 => rtext_M h1 (by omega) ?_⟩
      refine ⟨fun q => q = true, ⟨fun _ => ⟨by omega, by omega, sub_M hA hB (by omega) fun n2 L2 h2 => rtext_M h2 (by omega) (by simp)⟩, fun h => (by simp at h)⟩, ?_⟩
      rintro _ rfl
      refine ⟨fun q => q = true, ⟨fun _ => ⟨by omega, by omega, rmul_M hA hB (by omega) fun n2 L2 h2 => rtext_M h2 (by omega) (by simp)⟩, fun h => (by cases h)⟩, ?_⟩
      rintro _ rfl
      refine ⟨fun q => q = true, ⟨fun _ => ⟨by omega, by omega, neg_M hA (by omega) fun n2 L2 h2 => rtext_M h2 (by omega) (by simp)⟩, fun h => (by cases h)⟩, ?_⟩
      rintro _ rfl
      refine ⟨fun q => q = true, ⟨fun _ => ⟨by omega, cmp_M hA hB (by omega) (by simp)⟩, fun h => (by cases h)⟩, ?_⟩
      rintro _ rfl
      refine ⟨fun q => q = true, ⟨fun _ => ⟨by omega, by rw [hx]; exact m1, rdigits_M hA (by omega) (by rw [hx]; omega) (decide_eq_true rfl)⟩, fun h => (by simp at h)⟩, ?_⟩
      rintro _ rfl
      refine ⟨fun q => q = true, ⟨fun _ => ⟨by omega, decide_eq_true hx⟩, fun h => (by cases h)⟩, ?_⟩
      rintro _ rfl
      refine ⟨fun q => q = true, ⟨fun _ => ⟨by omega, decide_eq_true hy⟩, fun h => (by cases h)⟩, ?_⟩
      rintro _ rfl
      exact H
    · refine nparse_ok m1 hS (by omega) (rparse_M (m := 300) l1 (by omega) (fun _ n L _ => ⟨fun d => d = 0, ⟨fun _ => rfl, fun h => (by cases h)⟩, ?_⟩) (fun h => by rw [hS] at h; cases h))
      rintro _ rfl
      refine is_M ⟨fun _ => is_M H, fun h => ?_⟩
      simp at h
end Go.Proofs.YtilphcippnfklaaDoor
 