/- Texts of this claim, joined by a program: Num14, CmpA, GLs, GLt, GPv. -/
import Derived.Test.YtjoepdjeekadcaaDoorJ2
namespace Go.Proofs.YtjoepdjeekadcaaDoor
open Go Go.RowKit
attribute [local irreducible] WL WC WX WQ WK Yld Eff Ef0 Fn
theorem val_cut' (l : List Nat) (k : Nat) : val (l.drop k) ≤ val l := by
  rcases Nat.lt_or_ge l.length k with h | h
  · rw [List.drop_eq_nil_of_le (by omega)]; simp [val]
  · have := val_app (l.take k) (l.drop k)
    rw [List.take_append_drop, List.length_take, Nat.min_eq_left h] at this
    have h1 : 0 < 1000000000 ^ k := Nat.pow_pos (by omega)
    have h2 : 1 * val (l.drop k) ≤ 1000000000 ^ k * val (l.drop k) := Nat.mul_le_mul_right _ h1
    omega
def In64 (x : Int) : Prop := -9223372036854775808 ≤ x ∧ x ≤ 9223372036854775807
set_option maxHeartbeats 1000000 in
theorem int_fn (v : Value) (x : Int) (m : Nat) (w : World) (hN : Nm w v x m) (hm : m ≤ 90000) : Fn Tryd.prog 20 ⟨[v]⟩ w fun r w' => ((In64 x ∧ r = .tuple #[vi x, .bool true]) ∨ (¬ In64 x ∧ r = .tuple #[vi 0, .bool false])) ∧ w.grownBy w' none := by
  have hN0 := hN
  obtain ⟨neg, A, c, l, rfl, hR, hD, hC, hl, hn, hz⟩ := hN
  refine Fn.enter (by kernel_rfl) Tryd.func20 rfl Tryd.ntmps20 rfl ?_
  repeat (first | refine WC.seq ?_ | refine WC.block ?_ | refine WC.region ?_ | refine WL.nil ?_ | refine WX.then_normal ?_ | refine WC.skip ?_ | refine WC.exit ?_ | refine WC.ret ?_ | refine WX.then_exit ?_ | refine WX.then_ret ?_ | refine WX.block_normal ?_ | refine WX.block_ret ?_ | refine WX.block_same ?_ | refine WX.block_other rfl ?_ | refine WC.label ?_ | refine WC.scope ?_ | refine WX.scope_normal ?_ | refine WX.scope_ret ?_ | refine WX.scope_exit ?_ | refine WL.y rfl (Yld.sub rfl rfl (by simp only [In]; omega)) ?_ | refine WL.y rfl (Yld.mul rfl rfl (by simp only [In]; omega)) ?_ | refine WL.y rfl (Yld.convB tab_ok rfl rfl rfl rfl) ?_ | refine WL.y rfl (Yld.conv tab_ok rfl rfl rfl (by simp only [In]; omega)) ?_ | refine WL.y rfl (Yld.pure tab_ok rfl) ?_ | refine WL.y rfl (Yld.pickV rfl rfl rfl) ?_ | refine WL.gno rfl rfl rfl rfl ?_ | refine WL.gyes rfl rfl rfl rfl (Yld.pure tab_ok rfl) ?_)
  refine WL.box (us := [.bool neg, .slice A l.length c]) rfl rfl rfl (fun g1 w1 hB1 hg1 hl1 => ?_)
  repeat (first | refine WC.seq ?_ | refine WC.block ?_ | refine WC.region ?_ | refine WL.nil ?_ | refine WX.then_normal ?_ | refine WC.skip ?_ | refine WC.exit ?_ | refine WC.ret ?_ | refine WX.then_exit ?_ | refine WX.then_ret ?_ | refine WX.block_normal ?_ | refine WX.block_ret ?_ | refine WX.block_same ?_ | refine WX.block_other rfl ?_ | refine WC.label ?_ | refine WC.scope ?_ | refine WX.scope_normal ?_ | refine WX.scope_ret ?_ | refine WX.scope_exit ?_ | refine WL.y rfl (Yld.sub rfl rfl (by simp only [In]; omega)) ?_ | refine WL.y rfl (Yld.mul rfl rfl (by simp only [In]; omega)) ?_ | refine WL.y rfl (Yld.convB tab_ok rfl rfl rfl rfl) ?_ | refine WL.y rfl (Yld.conv tab_ok rfl rfl rfl (by simp only [In]; omega)) ?_ | refine WL.y rfl (Yld.pure tab_ok rfl) ?_ | refine WL.y rfl (Yld.pickV rfl rfl rfl) ?_ | refine WL.gno rfl rfl rfl rfl ?_ | refine WL.gyes rfl rfl rfl rfl (Yld.pure tab_ok rfl) ?_)
  refine WC.chain (fun k => Nat.beq k 0 || Nat.beq k 3 || Nat.beq k 4 || Nat.beq k 5 || Nat.beq k 8 || Nat.beq k 9) (fun w' => w1.grownBy w' none) mixed (by kernel_rfl) (fun w' e => gr_eqv (gr_refl _ _) e) ?_
  refine WK.y rfl rfl (fun w' h => Yld.bagg (vs := [.bool neg, .slice A l.length c]) tab_ok (hB1.keep h (by simp)) rfl rfl rfl rfl) ?_
  refine WK.call rfl wants_none rfl rfl (of_fn (-9223372036854775808) w1 (by omega) (by omega)) (fun v w' h w2 e => gr_eqv h.2 e) ?_
  rintro o1 v1 ⟨hNo, gs1⟩
  have hc1 := ncmp_fn _ _ _ _ (m + 3) v1 (((hN0.grown hg1).grown gs1).mono (by omega)) (hNo.mono (by omega)) (by omega)
  refine WK.call rfl wants_none rfl rfl hc1 (fun v w' h w2 e => gr_eqv (gr_trans gs1 h.2) e) ?_
  rintro _ v2 ⟨rfl, gs2⟩
  clear hc1
  have gt2 := gr_trans gs1 gs2
  rcases Int.lt_or_le x (-9223372036854775808) with hx | hx
  · rw [if_pos hx]
    repeat (first | refine WK.y rfl rfl (fun _ _ => Yld.sub rfl rfl (by simp only [In]; omega)) ?_ | refine WK.y rfl rfl (fun _ _ => Yld.mul rfl rfl (by simp only [In]; omega)) ?_ | refine WK.y rfl rfl (fun _ _ => Yld.convB tab_ok rfl rfl rfl rfl) ?_ | refine WK.y rfl rfl (fun _ _ => Yld.conv tab_ok rfl rfl rfl (by simp only [In]; omega)) ?_ | refine WK.y rfl rfl (fun _ _ => Yld.pure tab_ok rfl) ?_)
    refine WK.no rfl rfl rfl rfl ?_
    refine WK.no rfl rfl rfl rfl ?_
    refine WK.no rfl rfl rfl rfl ?_
    refine WK.no rfl rfl rfl rfl ?_
    refine WK.y rfl rfl (fun _ _ => Yld.pickV rfl rfl rfl) ?_
    refine WK.nil ?_
    repeat (first | refine WC.seq ?_ | refine WC.block ?_ | refine WC.region ?_ | refine WL.nil ?_ | refine WX.then_normal ?_ | refine WC.skip ?_ | refine WC.exit ?_ | refine WC.ret ?_ | refine WX.then_exit ?_ | refine WX.then_ret ?_ | refine WX.block_normal ?_ | refine WX.block_ret ?_ | refine WX.block_same ?_ | refine WX.block_other rfl ?_ | refine WC.label ?_ | refine WC.scope ?_ | refine WX.scope_normal ?_ | refine WX.scope_ret ?_ | refine WX.scope_exit ?_ | refine WL.y rfl (Yld.sub rfl rfl (by simp only [In]; omega)) ?_ | refine WL.y rfl (Yld.mul rfl rfl (by simp only [In]; omega)) ?_ | refine WL.y rfl (Yld.convB tab_ok rfl rfl rfl rfl) ?_ | refine WL.y rfl (Yld.conv tab_ok rfl rfl rfl (by simp only [In]; omega)) ?_ | refine WL.y rfl (Yld.pure tab_ok rfl) ?_ | refine WL.y rfl (Yld.pickV rfl rfl rfl) ?_ | refine WL.gno rfl rfl rfl rfl ?_ | refine WL.gyes rfl rfl rfl rfl (Yld.pure tab_ok rfl) ?_)
    refine WC.cond rfl (fun _ => ?_) (fun h => by cases h)
    repeat (first | refine WC.seq ?_ | refine WC.block ?_ | refine WC.region ?_ | refine WL.nil ?_ | refine WX.then_normal ?_ | refine WC.skip ?_ | refine WC.exit ?_ | refine WC.ret ?_ | refine WX.then_exit ?_ | refine WX.then_ret ?_ | refine WX.block_normal ?_ | refine WX.block_ret ?_ | refine WX.block_same ?_ | refine WX.block_other rfl ?_ | refine WC.label ?_ | refine WC.scope ?_ | refine WX.scope_normal ?_ | refine WX.scope_ret ?_ | refine WX.scope_exit ?_ | refine WL.y rfl (Yld.sub rfl rfl (by simp only [In]; omega)) ?_ | refine WL.y rfl (Yld.mul rfl rfl (by simp only [In]; omega)) ?_ | refine WL.y rfl (Yld.convB tab_ok rfl rfl rfl rfl) ?_ | refine WL.y rfl (Yld.conv tab_ok rfl rfl rfl (by simp only [In]; omega)) ?_ | refine WL.y rfl (Yld.pure tab_ok rfl) ?_ | refine WL.y rfl (Yld.pickV rfl rfl rfl) ?_ | refine WL.gno rfl rfl rfl rfl ?_ | refine WL.gyes rfl rfl rfl rfl (Yld.pure tab_ok rfl) ?_)
    exact WX.ret2 rfl rfl rfl ⟨.inr ⟨fun h => by unfold In64 at h; omega, rfl⟩, gr_trans hg1 gt2⟩
  · have hd : decide ((if x < -9223372036854775808 then (-1 : Int) else if -9223372036854775808 < x then 1 else 0) < 0) = false := by rw [if_neg (by omega)]; split <;> rfl
    repeat (first | refine WK.y rfl rfl (fun _ _ => Yld.sub rfl rfl (by simp only [In]; omega)) ?_ | refine WK.y rfl rfl (fun _ _ => Yld.mul rfl rfl (by simp only [In]; omega)) ?_ | refine WK.y rfl rfl (fun _ _ => Yld.convB tab_ok rfl rfl rfl rfl) ?_ | refine WK.y rfl rfl (fun _ _ => Yld.conv tab_ok rfl rfl rfl (by simp only [In]; omega)) ?_ | refine WK.y rfl rfl (fun _ _ => Yld.pure tab_ok rfl) ?_)
    rw [hd]
    refine WK.yw rfl (wants_some rfl rfl rfl) rfl (fun w' h => Yld.bagg (vs := [.bool neg, .slice A l.length c]) tab_ok (hB1.keep h (by simp)) rfl rfl rfl rfl) ?_
    refine WK.call rfl (wants_some rfl rfl rfl) rfl rfl (of_fn 9223372036854775807 v2 (by omega) (by omega)) (fun v w' h w2 e => gr_eqv (gr_trans gt2 h.2) e) ?_
    rintro o2 v3 ⟨hNo2, gs3⟩
    have gt3 := gr_trans gt2 gs3
    refine WK.call rfl (wants_some rfl rfl rfl) rfl rfl (ncmp_fn _ _ _ _ (m + 3) v3 (((hN0.grown hg1).grown gt3).mono (by omega)) (hNo2.mono (by omega)) (by omega)) (fun v w' h w2 e => gr_eqv (gr_trans gt3 h.2) e) ?_
    rintro _ v4 ⟨rfl, gs4⟩
    have gt4 := gr_trans gt3 gs4
    refine WK.yw rfl (wants_some rfl rfl rfl) rfl (fun _ _ => Yld.pure tab_ok rfl) ?_
    refine WK.y rfl rfl (fun _ _ => Yld.pickV rfl rfl rfl) ?_
    refine WK.nil ?_
    repeat (first | refine WC.seq ?_ | refine WC.block ?_ | refine WC.region ?_ | refine WL.nil ?_ | refine WX.then_normal ?_ | refine WC.skip ?_ | refine WC.exit ?_ | refine WC.ret ?_ | refine WX.then_exit ?_ | refine WX.then_ret ?_ | refine WX.block_normal ?_ | refine WX.block_ret ?_ | refine WX.block_same ?_ | refine WX.block_other rfl ?_ | refine WC.label ?_ | refine WC.scope ?_ | refine WX.scope_normal ?_ | refine WX.scope_ret ?_ | refine WX.scope_exit ?_ | refine WL.y rfl (Yld.sub rfl rfl (by simp only [In]; omega)) ?_ | refine WL.y rfl (Yld.mul rfl rfl (by simp only [In]; omega)) ?_ | refine WL.y rfl (Yld.convB tab_ok rfl rfl rfl rfl) ?_ | refine WL.y rfl (Yld.conv tab_ok rfl rfl rfl (by simp only [In]; omega)) ?_ | refine WL.y rfl (Yld.pure tab_ok rfl) ?_ | refine WL.y rfl (Yld.pickV rfl rfl rfl) ?_ | refine WL.gno rfl rfl rfl rfl ?_ | refine WL.gyes rfl rfl rfl rfl (Yld.pure tab_ok rfl) ?_)
    have hB4 := hB1.keep gt4 (by simp)
    have hR4 := (hR.grown hg1).grown gt4
    rcases Int.lt_or_le 9223372036854775807 x with hx2 | hx2
    · have hd2 : decide (0 < (if x < 9223372036854775807 then (-1 : Int) else if 9223372036854775807 < x then 1 else 0)) = true := by rw [if_neg (by omega), if_pos hx2]; rfl
      rw [hd2]
      refine WC.cond rfl (fun _ => ?_) (fun h => by cases h)
      repeat (first | refine WC.seq ?_ | refine WC.block ?_ | refine WC.region ?_ | refine WL.nil ?_ | refine WX.then_normal ?_ | refine WC.skip ?_ | refine WC.exit ?_ | refine WC.ret ?_ | refine WX.then_exit ?_ | refine WX.then_ret ?_ | refine WX.block_normal ?_ | refine WX.block_ret ?_ | refine WX.block_same ?_ | refine WX.block_other rfl ?_ | refine WC.label ?_ | refine WC.scope ?_ | refine WX.scope_normal ?_ | refine WX.scope_ret ?_ | refine WX.scope_exit ?_ | refine WL.y rfl (Yld.sub rfl rfl (by simp only [In]; omega)) ?_ | refine WL.y rfl (Yld.mul rfl rfl (by simp only [In]; omega)) ?_ | refine WL.y rfl (Yld.convB tab_ok rfl rfl rfl rfl) ?_ | refine WL.y rfl (Yld.conv tab_ok rfl rfl rfl (by simp only [In]; omega)) ?_ | refine WL.y rfl (Yld.pure tab_ok rfl) ?_ | refine WL.y rfl (Yld.pickV rfl rfl rfl) ?_ | refine WL.gno rfl rfl rfl rfl ?_ | refine WL.gyes rfl rfl rfl rfl (Yld.pure tab_ok rfl) ?_)
      exact WX.ret2 rfl rfl rfl ⟨.inr ⟨fun h => by unfold In64 at h; omega, rfl⟩, gr_trans hg1 gt4⟩
    · have hd2 : decide (0 < (if x < 9223372036854775807 then (-1 : Int) else if 9223372036854775807 < x then 1 else 0)) = false := by
        rcases Int.lt_or_le x 9223372036854775807 with h | h
        · rw [if_pos h]; rfl
        · rw [if_neg (by omega), if_neg (by omega)]; rfl
      rw [hd2]
      refine WC.cond rfl (fun h => by cases h) (fun _ => ?_)
      have hvl : val l ≤ 9223372036854775808 := by cases neg <;> simp at hz <;> omega
      repeat (first | refine WL.y rfl (Yld.bload tab_ok hB4 rfl rfl rfl) ?_ | refine WC.seq ?_ | refine WC.block ?_ | refine WC.region ?_ | refine WL.nil ?_ | refine WX.then_normal ?_ | refine WC.skip ?_ | refine WC.exit ?_ | refine WC.ret ?_ | refine WX.then_exit ?_ | refine WX.then_ret ?_ | refine WX.block_normal ?_ | refine WX.block_ret ?_ | refine WX.block_same ?_ | refine WX.block_other rfl ?_ | refine WC.label ?_ | refine WC.scope ?_ | refine WX.scope_normal ?_ | refine WX.scope_ret ?_ | refine WX.scope_exit ?_ | refine WL.y rfl (Yld.sub rfl rfl (by simp only [In]; omega)) ?_ | refine WL.y rfl (Yld.mul rfl rfl (by simp only [In]; omega)) ?_ | refine WL.y rfl (Yld.convB tab_ok rfl rfl rfl rfl) ?_ | refine WL.y rfl (Yld.conv tab_ok rfl rfl rfl (by simp only [In]; omega)) ?_ | refine WL.y rfl (Yld.pure tab_ok rfl) ?_ | refine WL.y rfl (Yld.pickV rfl rfl rfl) ?_ | refine WL.gno rfl rfl rfl rfl ?_ | refine WL.gyes rfl rfl rfl rfl (Yld.pure tab_ok rfl) ?_)
      refine WC.loop (S := Nat) (fun j => j) (fun j => [(5, .int .i64 ((j : Int) - 1)), (4, .int .i64 (-(val (l.drop j) : Int))), (1, .pointer (some ⟨g1, 0, none⟩))])
        (fun j w2 => j ≤ l.length ∧ w2 = v4) l.length ⟨by omega, rfl⟩ (by rw [List.drop_eq_nil_of_le (Nat.le_refl _)]; repeat (first | exact Sub.nil | refine Sub.cons rfl ?_)) (fun j w2 ⟨hj, hw2⟩ => ?_)
      subst hw2
      repeat (first | refine WC.seq ?_ | refine WC.block ?_ | refine WC.region ?_ | refine WL.nil ?_ | refine WX.then_normal ?_ | refine WC.skip ?_ | refine WC.exit ?_ | refine WC.ret ?_ | refine WX.then_exit ?_ | refine WX.then_ret ?_ | refine WX.block_normal ?_ | refine WX.block_ret ?_ | refine WX.block_same ?_ | refine WX.block_other rfl ?_ | refine WC.label ?_ | refine WC.scope ?_ | refine WX.scope_normal ?_ | refine WX.scope_ret ?_ | refine WX.scope_exit ?_ | refine WL.y rfl (Yld.sub rfl rfl (by simp only [In]; omega)) ?_ | refine WL.y rfl (Yld.mul rfl rfl (by simp only [In]; omega)) ?_ | refine WL.y rfl (Yld.convB tab_ok rfl rfl rfl rfl) ?_ | refine WL.y rfl (Yld.conv tab_ok rfl rfl rfl (by simp only [In]; omega)) ?_ | refine WL.y rfl (Yld.pure tab_ok rfl) ?_ | refine WL.y rfl (Yld.pickV rfl rfl rfl) ?_ | refine WL.gno rfl rfl rfl rfl ?_ | refine WL.gyes rfl rfl rfl rfl (Yld.pure tab_ok rfl) ?_)
      refine WC.cond rfl (fun h => ?_) (fun h => ?_)
      · simp only [decide_eq_true_eq] at h
        obtain ⟨i, rfl⟩ : ∃ i, j = i + 1 := ⟨j - 1, by omega⟩
        have hjt : (((i + 1 : Nat) : Int) - 1).toNat = i := by omega
        have hda := hD (((i + 1 : Nat) : Int) - 1).toNat
        have hdc := drop_cons' l i (by omega)
        have hcut := val_cut' l i
        rw [hjt] at hda
        have hda2 : l.getD (((i + 1 : Nat) : Int) - 1).toNat 0 = l.getD i 0 := by rw [hjt]
        generalize hV : val (l.drop (i + 1)) = V at *
        repeat (first | refine WL.y rfl (Yld.bload tab_ok hB4 rfl rfl rfl) ?_ | refine WL.y rfl (Yld.iaddr tab_ok hR4 rfl rfl rfl rfl (by omega) (by omega)) ?_ | refine WL.y rfl (Yld.iload 0 tab_ok hR4 rfl rfl (by omega)) ?_ | refine WC.seq ?_ | refine WC.block ?_ | refine WC.region ?_ | refine WL.nil ?_ | refine WX.then_normal ?_ | refine WC.skip ?_ | refine WC.exit ?_ | refine WC.ret ?_ | refine WX.then_exit ?_ | refine WX.then_ret ?_ | refine WX.block_normal ?_ | refine WX.block_ret ?_ | refine WX.block_same ?_ | refine WX.block_other rfl ?_ | refine WC.label ?_ | refine WC.scope ?_ | refine WX.scope_normal ?_ | refine WX.scope_ret ?_ | refine WX.scope_exit ?_ | refine WL.y rfl (Yld.sub rfl rfl (by simp only [In]; omega)) ?_ | refine WL.y rfl (Yld.mul rfl rfl (by simp only [In]; omega)) ?_ | refine WL.y rfl (Yld.convB tab_ok rfl rfl rfl rfl) ?_ | refine WL.y rfl (Yld.conv tab_ok rfl rfl rfl (by simp only [In]; omega)) ?_ | refine WL.y rfl (Yld.pure tab_ok rfl) ?_ | refine WL.y rfl (Yld.pickV rfl rfl rfl) ?_ | refine WL.gno rfl rfl rfl rfl ?_ | refine WL.gyes rfl rfl rfl rfl (Yld.pure tab_ok rfl) ?_)
        have hsl : ((i + 1 : Nat) : Int) - 1 - 1 = (i : Int) - 1 := by omega
        have hvv : -(V : Int) * 1000000000 - ((l.getD (((i + 1 : Nat) : Int) - 1).toNat 0 : Nat) : Int) = -(val (l.drop i) : Int) := by rw [hda2]; omega
        rw [hsl, hvv]
        exact WX.round i ⟨by omega, rfl⟩ (by omega) (by repeat (first | exact Sub.nil | refine Sub.cons rfl ?_))
      · simp only [decide_eq_false_iff_not] at h
        obtain rfl : j = 0 := by omega
        repeat (first | refine WL.y rfl (Yld.bload tab_ok hB4 rfl rfl rfl) ?_ | refine WC.seq ?_ | refine WC.block ?_ | refine WC.region ?_ | refine WL.nil ?_ | refine WX.then_normal ?_ | refine WC.skip ?_ | refine WC.exit ?_ | refine WC.ret ?_ | refine WX.then_exit ?_ | refine WX.then_ret ?_ | refine WX.block_normal ?_ | refine WX.block_ret ?_ | refine WX.block_same ?_ | refine WX.block_other rfl ?_ | refine WC.label ?_ | refine WC.scope ?_ | refine WX.scope_normal ?_ | refine WX.scope_ret ?_ | refine WX.scope_exit ?_ | refine WL.y rfl (Yld.sub rfl rfl (by simp only [In]; omega)) ?_ | refine WL.y rfl (Yld.mul rfl rfl (by simp only [In]; omega)) ?_ | refine WL.y rfl (Yld.convB tab_ok rfl rfl rfl rfl) ?_ | refine WL.y rfl (Yld.conv tab_ok rfl rfl rfl (by simp only [In]; omega)) ?_ | refine WL.y rfl (Yld.pure tab_ok rfl) ?_ | refine WL.y rfl (Yld.pickV rfl rfl rfl) ?_ | refine WL.gno rfl rfl rfl rfl ?_ | refine WL.gyes rfl rfl rfl rfl (Yld.pure tab_ok rfl) ?_)
        rw [List.drop_zero]
        have hgx := gr_trans hg1 gt4
        refine WC.cond rfl (fun h => ?_) (fun h => ?_)
        · have hneg : neg = false := by simpa using h
          subst hneg
          repeat (first | refine WC.seq ?_ | refine WC.block ?_ | refine WC.region ?_ | refine WL.nil ?_ | refine WX.then_normal ?_ | refine WC.skip ?_ | refine WC.exit ?_ | refine WC.ret ?_ | refine WX.then_exit ?_ | refine WX.then_ret ?_ | refine WX.block_normal ?_ | refine WX.block_ret ?_ | refine WX.block_same ?_ | refine WX.block_other rfl ?_ | refine WC.label ?_ | refine WC.scope ?_ | refine WX.scope_normal ?_ | refine WX.scope_ret ?_ | refine WX.scope_exit ?_ | refine WL.y rfl (Yld.sub rfl rfl (by simp only [In]; omega)) ?_ | refine WL.y rfl (Yld.mul rfl rfl (by simp only [In]; omega)) ?_ | refine WL.y rfl (Yld.convB tab_ok rfl rfl rfl rfl) ?_ | refine WL.y rfl (Yld.conv tab_ok rfl rfl rfl (by simp only [In]; omega)) ?_ | refine WL.y rfl (Yld.pure tab_ok rfl) ?_ | refine WL.y rfl (Yld.pickV rfl rfl rfl) ?_ | refine WL.gno rfl rfl rfl rfl ?_ | refine WL.gyes rfl rfl rfl rfl (Yld.pure tab_ok rfl) ?_)
          have hw : IntKind.i64.wrap (0 - -(val l : Int)) = x := by rw [In.wrap (by simp only [In]; simp at hz; omega)]; simp at hz; omega
          rw [hw]
          exact WX.ret2 rfl rfl rfl ⟨.inl ⟨⟨by omega, by omega⟩, rfl⟩, hgx⟩
        · have hneg : neg = true := by simpa using h
          subst hneg
          repeat (first | refine WC.seq ?_ | refine WC.block ?_ | refine WC.region ?_ | refine WL.nil ?_ | refine WX.then_normal ?_ | refine WC.skip ?_ | refine WC.exit ?_ | refine WC.ret ?_ | refine WX.then_exit ?_ | refine WX.then_ret ?_ | refine WX.block_normal ?_ | refine WX.block_ret ?_ | refine WX.block_same ?_ | refine WX.block_other rfl ?_ | refine WC.label ?_ | refine WC.scope ?_ | refine WX.scope_normal ?_ | refine WX.scope_ret ?_ | refine WX.scope_exit ?_ | refine WL.y rfl (Yld.sub rfl rfl (by simp only [In]; omega)) ?_ | refine WL.y rfl (Yld.mul rfl rfl (by simp only [In]; omega)) ?_ | refine WL.y rfl (Yld.convB tab_ok rfl rfl rfl rfl) ?_ | refine WL.y rfl (Yld.conv tab_ok rfl rfl rfl (by simp only [In]; omega)) ?_ | refine WL.y rfl (Yld.pure tab_ok rfl) ?_ | refine WL.y rfl (Yld.pickV rfl rfl rfl) ?_ | refine WL.gno rfl rfl rfl rfl ?_ | refine WL.gyes rfl rfl rfl rfl (Yld.pure tab_ok rfl) ?_)
          have hw : -(val l : Int) = x := by simp at hz; omega
          rw [hw]
          exact WX.ret2 rfl rfl rfl ⟨.inl ⟨⟨by omega, by omega⟩, rfl⟩, hgx⟩
end Go.Proofs.YtjoepdjeekadcaaDoor


 /- The contract of num's Cmp in the generator's form, for seats that lack other parts of num. -/
namespace Go.Proofs.YtjoepdjeekadcaaDoor
open Go Go.RowKit
def M_num_Num_Cmp (x : Int) (m : Nat) (y : Int) (k : Nat) (K : Int → Prop) : Prop := max m k ≤ 900000 ∧ K (if x < y then -1 else if y < x then 1 else 0)
theorem W_num_Num_Cmp {w : World} {a b c d : Value} {x y : Int} {m k : Nat} {K : Int → Prop} (h1 : Nm w (.agg ⟨[a, b]⟩) x m) (h2 : Nm w (.agg ⟨[c, d]⟩) y k) (H : M_num_Num_Cmp x m y k K) : Fn Tryd.prog 42 ⟨[.agg ⟨[a, b]⟩, .agg ⟨[c, d]⟩]⟩ w (fun v w' => w.grownBy w' none ∧ ∃ r : Int, v = .int .i64 r ∧ K r) :=
  (ncmp_fn _ _ x y (max m k) w (h1.mono (by omega)) (h2.mono (by omega)) H.1).mono fun _ _ ⟨hv, hg⟩ => ⟨hg, _, hv, H.2⟩
def M_num_Num_Int (x : Int) (m : Nat) (K : Int → Bool → Prop) : Prop := m ≤ 90000 ∧ (In64 x → K x true) ∧ (¬ In64 x → K 0 false)
theorem W_num_Num_Int {w : World} {a b : Value} {x : Int} {m : Nat} {K : Int → Bool → Prop} (h1 : Nm w (.agg ⟨[a, b]⟩) x m) (H : M_num_Num_Int x m K) : Fn Tryd.prog 20 ⟨[.agg ⟨[a, b]⟩]⟩ w (fun v w' => w.grownBy w' none ∧ ∃ (r : Int) (s : Bool), v = .tuple #[.int .i64 r, .bool s] ∧ K r s) :=
  (int_fn _ x m w h1 H.1).mono fun _ _ ⟨hv, hg⟩ => by
    rcases hv with ⟨h, rfl⟩ | ⟨h, rfl⟩
    · exact ⟨hg, _, _, rfl, H.2.1 h⟩
    · exact ⟨hg, _, _, rfl, H.2.2 h⟩
theorem Nm.zero {w : World} : Nm w (.agg ⟨[.bool false, .slice none 0 0]⟩) 0 0 := ⟨false, none, 0, [], rfl, Rd.nil _ _ (by simp [maxLen]), fun i => by simp, by simp [Can], by simp, (fun h => by cases h), rfl⟩
end Go.Proofs.YtjoepdjeekadcaaDoor


 /- Printed by a program (wip/vg): what the functions mean, plainly, and their walks. -/
namespace Go.Proofs.YtjoepdjeekadcaaDoor
open Go Go.RowKit
attribute [local irreducible] WL WC WX WQ WK WJ Yld Eff Ef0 Fn
def M_val_shallow (n : Int) (deep : Int) (K : Er → Prop) : Prop :=
 ((((decide (n = (0 : Int))) && (decide ((60 : Int) ≤ deep))) = true → K (Er.e 7)) ∧
 (((decide (n = (0 : Int))) && (decide ((60 : Int) ≤ deep))) = false → K Er.ok))

def M_pval_looker_look (k_left : Int) (deep : Int) (K : Er → Int → Prop) : Prop :=
 (In .i64 (k_left - (1 : Int))) ∧
 ((((decide ((k_left - (1 : Int)) < (0 : Int))) || (decide ((60 : Int) < deep))) = true → K (Er.e 7) (k_left - (1 : Int))) ∧
 (((decide ((k_left - (1 : Int)) < (0 : Int))) || (decide ((60 : Int) < deep))) = false → K Er.ok (k_left - (1 : Int))))

def M_pval_looker_equal (k_left : Int) (a : PV) (b : PV) (deep : Int) (K : Bool → Er → Int → Prop) : Prop :=
 M_pval_looker_look k_left deep (fun (err : Er) (k_ : Int) =>
 ((¬ (err = Er.ok) → K false err k_) ∧
 (err = Er.ok → (a ≠ PV.nil) ∧
 (b ≠ PV.nil) ∧
 ((¬ ((kindP a) = (kindP b)) → K false Er.ok k_) ∧
 ((kindP a) = (kindP b) → (a ≠ PV.none) ∧
 ((∀ z : Int, a = PV.int z → (∃ z2 : Int, b = PV.int z2 ∧
 M_num_Num_Cmp z 3 z2 3 (fun (t51 : Int) =>
 K (decide (t51 = (0 : Int))) Er.ok k_))) ∧
 ((∀ z, a ≠ PV.int z) → ((a = PV.emp → False) ∧
 (a ≠ PV.emp → ((∀ l : List Int, a = PV.tup l → (∃ l2 : List Int, b = PV.tup l2 ∧
 False)) ∧
 ((∀ l, a ≠ PV.tup l) → False)))))))))))

def M_pval_looker_less (k_left : Int) (a : PV) (b : PV) (deep : Int) (K : Bool → Er → Int → Prop) : Prop :=
 M_pval_looker_look k_left deep (fun (err : Er) (k_ : Int) =>
 ((¬ (err = Er.ok) → K false err k_) ∧
 (err = Er.ok → (a ≠ PV.nil) ∧
 (b ≠ PV.nil) ∧
 ((¬ ((kindP a) = (kindP b)) → K false (Er.e 3) k_) ∧
 ((kindP a) = (kindP b) → ((∀ z : Int, a = PV.int z → (∃ z2 : Int, b = PV.int z2 ∧
 M_num_Num_Cmp z 3 z2 3 (fun (t46 : Int) =>
 K (decide (t46 < (0 : Int))) Er.ok k_))) ∧
 ((∀ z, a ≠ PV.int z) → ((a = PV.emp → False) ∧
 (a ≠ PV.emp → ((∀ l : List Int, a = PV.tup l → (∃ l2 : List Int, b = PV.tup l2 ∧
 False)) ∧
 ((∀ l, a ≠ PV.tup l) → K false (Er.e 3) k_)))))))))))

def M_pval_looker_first (k_left : Int) (a : List PV) (b : List PV) (deep : Int) (K : Bool → Er → Int → Prop) : Prop :=
 (a.length ≤ maxLen →
 (b.length ≤ maxLen →
 Lp2 (fun (t19 : Int) (k0 : Int) kont1 => ((t19 < (if (b.length : Int) < (a.length : Int) then (b.length : Int) else (a.length : Int)) → (0 ≤ t19 ∧ t19 < (a.length : Nat)) ∧
 (0 ≤ t19 ∧ t19 < (b.length : Nat)) ∧
 (In .i64 (deep + (1 : Int))) ∧
 M_pval_looker_equal k0 (a.getD t19.toNat PV.nil) (b.getD t19.toNat PV.nil) (deep + (1 : Int)) (fun (t340 : Bool) (t341 : Er) (k_ : Int) =>
 ((¬ (t341 = Er.ok) → K false t341 k_) ∧
 (t341 = Er.ok → (((!t340) = true → (0 ≤ t19 ∧ t19 < (a.length : Nat)) ∧
 (0 ≤ t19 ∧ t19 < (b.length : Nat)) ∧
 (In .i64 (deep + (1 : Int))) ∧
 M_pval_looker_less k_ (a.getD t19.toNat PV.nil) (b.getD t19.toNat PV.nil) (deep + (1 : Int)) (fun (t530 : Bool) (t531 : Er) (k_2 : Int) =>
 K t530 t531 k_2)) ∧
 ((!t340) = false → (In .i64 (t19 + (1 : Int))) ∧
 kont1 (t19 + (1 : Int)) k_)))))) ∧
 (¬ (t19 < (if (b.length : Int) < (a.length : Int) then (b.length : Int) else (a.length : Int))) → M_val_shallow (if (b.length : Int) < (a.length : Int) then (b.length : Int) else (a.length : Int)) deep (fun (err : Er) =>
 ((¬ (err = Er.ok) → K false err k0) ∧
 (err = Er.ok → K (decide ((a.length : Int) < (b.length : Int))) Er.ok k0)))))) (0 : Int) k_left))

def M_val_looker_lessT (k_left : Int) (a : PV) (b : PV) (deep : Int) (K : Bool → Er → Int → Prop) : Prop :=
 M_pval_looker_look k_left deep (fun (err : Er) (k_ : Int) =>
 ((¬ (err = Er.ok) → K false err k_) ∧
 (err = Er.ok → (a ≠ PV.nil) ∧
 (b ≠ PV.nil) ∧
 ((¬ ((kindP a) = (kindP b)) → K false (Er.e 3) k_) ∧
 ((kindP a) = (kindP b) → ((∀ z : Int, a = PV.int z → (∃ z2 : Int, b = PV.int z2 ∧
 M_num_Num_Cmp z 3 z2 3 (fun (t46 : Int) =>
 K (decide (t46 < (0 : Int))) Er.ok k_))) ∧
 ((∀ z, a ≠ PV.int z) → ((a = PV.emp → False) ∧
 (a ≠ PV.emp → ((∀ l : List Int, a = PV.tup l → (∃ l2 : List Int, b = PV.tup l2 ∧
 M_pval_looker_first k_ (l.map PV.int) (l2.map PV.int) deep (fun (t860 : Bool) (t861 : Er) (k_2 : Int) =>
 K t860 t861 k_2))) ∧
 ((∀ l, a ≠ PV.tup l) → K false (Er.e 3) k_)))))))))))

def M_val_Less (a : PV) (b : PV) (K : Bool → Er → Prop) : Prop :=
 M_val_looker_lessT (4096 : Int) a b (0 : Int) (fun (t120 : Bool) (t121 : Er) (t8_ : Int) =>
 K t120 t121)

set_option maxHeartbeats 8000000 in
theorem W_val_shallow {S : List Nat} {w : World} {n : Int} {deep : Int} {K : Er → Prop} (hG : GOK S w) (hS7 : 7 ∈ S) (H : M_val_shallow n deep K) : Fn Tryd.prog 75 ⟨[.int .i64 n, .int .i64 deep]⟩ w (fun v w' => w = w' ∧ ∃ (v_r : Value), ∃ (r : Er), v = v_r ∧ ErrR S w' v_r r ∧ K r) := by
  unfold M_val_shallow at H
  refine Fn.enter (by kernel_rfl) Tryd.func75 rfl Tryd.ntmps75 rfl ?_
  refine WC.seq ?_
  refine WC.region ?_
  refine WL.y rfl (Yld.pure tab_ok rfl) ?_
  refine WL.nil (WX.then_normal ?_)
  refine WC.seq ?_
  refine WC.seq ?_
  refine WC.region ?_
  refine WL.y rfl (Yld.pure tab_ok rfl) ?_
  refine WL.y rfl (Yld.pure tab_ok rfl) ?_
  refine WL.y rfl (Yld.pure tab_ok rfl) ?_
  refine WL.midF 3 (fun L' w' => ∃ q1 : Bool, L' = [(10, .bool q1)] ∧ ((decide (n = (0 : Int))) && (decide ((60 : Int) ≤ deep))) = q1 ∧ w = w') ?_ (fun hQ => ?_)
  · rintro _ _ ⟨q1, rfl, rfl, rfl⟩
    refine WL.nil (WX.then_normal ?_)
    refine WC.cond rfl (fun b1 => ?_) (fun b1 => ?_)
    · replace H := H.1 (b1)
      refine WC.seq ?_
      refine WC.region ?_
      obtain ⟨vE1, _, hE1⟩ := GOK.get hG 7 0 hS7 rfl rfl
      refine WL.y rfl (Yld.cell tab_ok (ErrR.cell hE1 rfl) rfl rfl) ?_
      refine WL.y rfl (Yld.pure tab_ok rfl) ?_
      refine WL.nil (WX.then_normal ?_)
      refine WC.ret (WX.then_ret ?_)
      exact WX.ret1 rfl rfl ⟨rfl, vE1, (Er.e 7), rfl, hE1, H⟩
    · replace H := H.2 (b1)
      refine WC.skip (WX.then_normal ?_)
      refine WC.seq ?_
      refine WC.region ?_
      refine WL.y rfl (Yld.pure tab_ok rfl) ?_
      refine WL.nil (WX.then_normal ?_)
      refine WC.ret ?_
      exact WX.ret1 rfl rfl ⟨rfl, .nilIface, Er.ok, rfl, (ErrR.okR (S := S) (w := w)), H⟩
  · clear H
    rcases Bool.eq_false_or_eq_true (decide (n = (0 : Int))) with b2 | b2
    · refine WL.gyes rfl rfl (okb b2) rfl (Yld.pure tab_ok rfl) ?_
      refine WL.gyes rfl rfl (okb b2) rfl (Yld.pure tab_ok rfl) ?_
      refine WL.y rfl (Yld.pickT (okb b2) rfl) ?_
      exact WL.weaken (by repeat (first | exact Sub.nil | refine Sub.cons rfl ?_)) (hQ _ _ ⟨decide ((60 : Int) ≤ deep), rfl, by rw [b2] <;> rfl, rfl⟩)
    · refine WL.gno rfl rfl (okb b2) rfl ?_
      refine WL.gno rfl rfl (okb b2) rfl ?_
      refine WL.y rfl (Yld.pickF (okb b2) rfl) ?_
      exact WL.weaken (by repeat (first | exact Sub.nil | refine Sub.cons rfl ?_)) (hQ _ _ ⟨false, rfl, by rw [b2] <;> rfl, rfl⟩)

set_option maxHeartbeats 8000000 in
theorem W_pval_looker_look {S : List Nat} {B : Nat} {w : World} {g_k : Nat} {k_left : Int} {deep : Int} {K : Er → Int → Prop} (hG : GB S B w) (hB : B ≤ w.heap.size) (hP : AllP (fun p => Ge p B) [(some g_k)]) (hS7 : 7 ∈ S) (hk : Bl w g_k 103 [.int .i64 k_left]) (H : M_pval_looker_look k_left deep K) : Fn Tryd.prog 63 ⟨[.pointer (some ⟨g_k, 0, none⟩), .int .i64 deep]⟩ w (fun v w' => GrL [(some g_k)] w w' ∧ ∃ (v_r : Value), ∃ (r : Er), ∃ (k_left2 : Int), v = v_r ∧ ErrR S w' v_r r ∧ Bl w' g_k 103 [.int .i64 k_left2] ∧ K r k_left2) := by
  unfold M_pval_looker_look at H
  refine Fn.enter (by kernel_rfl) Tryd.func63 rfl Tryd.ntmps63 rfl ?_
  have hNoAt : AllP (NoAt w) [(some g_k)] := (apC (NoAt.bl hk rfl) apN)
  refine WC.seq ?_
  refine WC.region ?_
  refine WL.y rfl (Yld.pure tab_ok rfl) ?_
  refine WL.nil (WX.then_normal ?_)
  refine WC.seq ?_
  refine WC.seq ?_
  refine WC.region ?_
  refine WL.y rfl (Yld.pure tab_ok rfl) ?_
  refine WL.y rfl (Yld.pure tab_ok rfl) ?_
  refine WL.y rfl (Yld.pure tab_ok rfl) ?_
  refine WL.y rfl (Yld.bload tab_ok hk rfl rfl rfl) ?_
  obtain ⟨h1, H⟩ := H
  refine WL.y rfl (Yld.sub rfl rfl h1) ?_
  refine WL.y rfl (Yld.pure tab_ok rfl) ?_
  refine WL.y rfl (Yld.pure tab_ok rfl) ?_
  refine WL.store1 one3 rfl rfl rfl hk (by simp) (fun w1 hB2 hg1 => ?_)
  have hB1 : Bl w1 g_k 103 [.int .i64 (k_left - (1 : Int))] := hB2
  have gr1 : GrL [(some g_k)] w w1 := GrL.mod (GrL.refl _) hg1 (InP.mem (List.Mem.head _))
  refine WL.nil (WX.then_normal ?_)
  refine WC.seq ?_
  refine WC.region ?_
  refine WL.y rfl (Yld.pure tab_ok rfl) ?_
  refine WL.y rfl (Yld.pure tab_ok rfl) ?_
  refine WL.y rfl (Yld.pure tab_ok rfl) ?_
  refine WL.y rfl (Yld.bload tab_ok hB1 rfl rfl rfl) ?_
  refine WL.y rfl (Yld.pure tab_ok rfl) ?_
  refine WL.y rfl (Yld.pure tab_ok rfl) ?_
  refine WL.midF 3 (fun L' w' => ∃ q1 : Bool, L' = [(20, .bool q1)] ∧ ((decide ((k_left - (1 : Int)) < (0 : Int))) || (decide ((60 : Int) < deep))) = q1 ∧ w1 = w') ?_ (fun hQ => ?_)
  · rintro _ _ ⟨q1, rfl, rfl, rfl⟩
    refine WL.nil (WX.then_normal ?_)
    refine WC.cond rfl (fun b1 => ?_) (fun b1 => ?_)
    · replace H := H.1 (b1)
      refine WC.seq ?_
      refine WC.region ?_
      obtain ⟨vE1, _, hE1⟩ := GOK.get (hG.goL gr1 hP).ok 7 0 hS7 rfl rfl
      refine WL.y rfl (Yld.cell tab_ok (ErrR.cell hE1 rfl) rfl rfl) ?_
      refine WL.y rfl (Yld.pure tab_ok rfl) ?_
      refine WL.nil (WX.then_normal ?_)
      refine WC.ret (WX.then_ret ?_)
      exact WX.ret1 rfl rfl ⟨gr1, vE1, (Er.e 7), k_left - (1 : Int), rfl, hE1, hB1, H⟩
    · replace H := H.2 (b1)
      refine WC.skip (WX.then_normal ?_)
      refine WC.seq ?_
      refine WC.region ?_
      refine WL.y rfl (Yld.pure tab_ok rfl) ?_
      refine WL.nil (WX.then_normal ?_)
      refine WC.ret ?_
      exact WX.ret1 rfl rfl ⟨gr1, .nilIface, Er.ok, k_left - (1 : Int), rfl, (ErrR.okR (S := S) (w := w1)), hB1, H⟩
  · clear H
    rcases Bool.eq_false_or_eq_true (decide ((k_left - (1 : Int)) < (0 : Int))) with b2 | b2
    · refine WL.gno rfl rfl (okb b2) rfl ?_
      refine WL.gno rfl rfl (okb b2) rfl ?_
      refine WL.y rfl (Yld.pickT (okb b2) rfl) ?_
      exact WL.weaken (by repeat (first | exact Sub.nil | refine Sub.cons rfl ?_)) (hQ _ _ ⟨true, rfl, by rw [b2] <;> rfl, rfl⟩)
    · refine WL.gyes rfl rfl (okb b2) rfl (Yld.pure tab_ok rfl) ?_
      refine WL.gyes rfl rfl (okb b2) rfl (Yld.pure tab_ok rfl) ?_
      refine WL.y rfl (Yld.pickF (okb b2) rfl) ?_
      exact WL.weaken (by repeat (first | exact Sub.nil | refine Sub.cons rfl ?_)) (hQ _ _ ⟨decide ((60 : Int) < deep), rfl, by rw [b2] <;> rfl, rfl⟩)

set_option maxHeartbeats 8000000 in
theorem W_pval_looker_equal {S : List Nat} {B : Nat} {w : World} {g_k : Nat} {k_left : Int} {v_a : OV} {F_a : Nat → Prop} {a : PV} {v_b : OV} {F_b : Nat → Prop} {b : PV} {deep : Int} {K : Bool → Er → Int → Prop} (hG : GB S B w) (hB : B ≤ w.heap.size) (hP : AllP (fun p => Ge p B) [(some g_k)]) (hS7 : 7 ∈ S) (hk : Bl w g_k 103 [.int .i64 k_left]) (ha : RelD deV w [(v_a, F_a)] [a]) (hb : RelD deV w [(v_b, F_b)] [b]) (hap0 : AllP (DnD deV [(v_a, F_a)] [a]) [(some g_k)]) (hap1 : AllP (DnD deV [(v_b, F_b)] [b]) [(some g_k)]) (H : M_pval_looker_equal k_left a b deep K) : Fn Tryd.prog 74 ⟨[.pointer (some ⟨g_k, 0, none⟩), v_a.1, v_b.1, .int .i64 deep]⟩ w (fun v w' => GrL [(some g_k)] w w' ∧ ∃ (r0 : Bool), ∃ (v_r1 : Value), ∃ (r1 : Er), ∃ (k_left2 : Int), v = .tuple #[.bool r0, v_r1] ∧ ErrR S w' v_r1 r1 ∧ Bl w' g_k 103 [.int .i64 k_left2] ∧ K r0 r1 k_left2) := by
  unfold M_pval_looker_equal at H
  refine Fn.enter (by kernel_rfl) Tryd.func74 rfl Tryd.ntmps74 rfl ?_
  have hNoAt : AllP (NoAt w) [(some g_k)] := (apC (NoAt.bl hk rfl) apN)
  refine WC.seq ?_
  refine WC.region ?_
  refine WL.y rfl (Yld.pure tab_ok rfl) ?_
  refine WL.y rfl (Yld.pure tab_ok rfl) ?_
  refine WL.nil (WX.then_normal ?_)
  refine WC.seq ?_
  refine WC.seq ?_
  refine WC.region ?_
  refine WL.y rfl (Yld.pure tab_ok rfl) ?_
  refine WL.y rfl (Yld.pure tab_ok rfl) ?_
  refine WL.call rfl rfl (W_pval_looker_look hG (Nat.le_trans hB (Nat.le_refl _)) (apC (InP.toGe (InP.mem (List.Mem.head _)) hP hB) apN) hS7 hk H) ?_
  rintro v_err w1 ⟨hgl1, _, err, k_, rfl, herr, hB1, H⟩
  have gr1 : GrL [(some g_k)] w w1 := GrL.modL (GrL.refl _) hgl1 (apC (InP.mem (List.Mem.head _)) apN)
  refine WL.y rfl (Yld.pure tab_ok rfl) ?_
  refine WL.nil (WX.then_normal ?_)
  refine WC.seq ?_
  refine WC.region ?_
  refine WL.y rfl (Yld.pure tab_ok rfl) ?_
  refine WL.y rfl (Yld.errneq Tryd.underlying34 herr rfl) ?_
  refine WL.nil (WX.then_normal ?_)
  refine WC.cond rfl (fun b1 => ?_) (fun b1 => ?_)
  · replace H := H.1 (nd_true b1)
    refine WC.seq ?_
    refine WC.region ?_
    refine WL.y rfl (Yld.pure tab_ok rfl) ?_
    refine WL.y rfl (Yld.pure tab_ok rfl) ?_
    refine WL.y rfl (Yld.pure tab_ok rfl) ?_
    refine WL.nil (WX.then_normal ?_)
    refine WC.ret (WX.then_ret ?_)
    exact WX.ret2 rfl rfl rfl ⟨gr1, false, v_err, err, k_, rfl, herr, hB1, H⟩
  · replace H := H.2 (nd_false b1)
    refine WC.skip (WX.then_normal ?_)
    refine WC.seq ?_
    refine WC.seq ?_
    refine WC.region ?_
    refine WL.y rfl (Yld.pure tab_ok rfl) ?_
    obtain ⟨h1, H⟩ := H
    refine WL.kindV rfl (ha.goL gr1 hap0) h1 rfl (fun w2 hg1 => ?_)
    have gr2 := GrL.add0 gr1 hg1
    have k1 := hB1.g0 hg1
    refine WL.y rfl (Yld.pure tab_ok rfl) ?_
    obtain ⟨h2, H⟩ := H
    refine WL.kindV rfl (hb.goL gr2 hap1) h2 rfl (fun w3 hg2 => ?_)
    have gr3 := GrL.add0 gr2 hg2
    have k2 := k1.g0 hg2
    refine WL.y rfl (Yld.pure tab_ok rfl) ?_
    refine WL.nil (WX.then_normal ?_)
    refine WC.cond rfl (fun b2 => ?_) (fun b2 => ?_)
    · replace H := H.1 (nd_true b2)
      refine WC.seq ?_
      refine WC.region ?_
      refine WL.y rfl (Yld.pure tab_ok rfl) ?_
      refine WL.y rfl (Yld.pure tab_ok rfl) ?_
      refine WL.nil (WX.then_normal ?_)
      refine WC.ret (WX.then_ret ?_)
      exact WX.ret2 rfl rfl rfl ⟨gr3, false, .nilIface, Er.ok, k_, rfl, (ErrR.okR (S := S) (w := w3)), k2, H⟩
    · replace H := H.2 (nd_false b2)
      refine WC.skip (WX.then_normal ?_)
      refine WC.seq ?_
      refine WC.seq ?_
      refine WC.region ?_
      refine WL.y rfl (Yld.pure tab_ok rfl) ?_
      refine WL.nil (WX.then_normal ?_)
      refine WC.block ?_
      refine WC.seq ?_
      refine WC.region ?_
      obtain ⟨h3, H⟩ := H
      refine WL.y rfl (assertNoV (z := .agg ⟨[]⟩) Tryd.underlying111 rfl (fun _ => by kernel_rfl) (ha.goL gr3 hap0) rfl (tyP_none h3)) ?_
      refine WL.y rfl (Yld.pure tab_ok rfl) ?_
      refine WL.y rfl (Yld.pure tab_ok rfl) ?_
      refine WL.nil (WX.then_normal ?_)
      refine WC.cond rfl (fun h => by cases h) (fun _ => ?_)
      refine WC.seq ?_
      refine WC.region ?_
      refine WL.y rfl (assertNoV (z := .bool false) Tryd.underlying113 rfl (fun _ => by kernel_rfl) (ha.goL gr3 hap0) rfl (tyP_no rfl a)) ?_
      refine WL.y rfl (Yld.pure tab_ok rfl) ?_
      refine WL.y rfl (Yld.pure tab_ok rfl) ?_
      refine WL.nil (WX.then_normal ?_)
      refine WC.cond rfl (fun h => by cases h) (fun _ => ?_)
      refine WC.seq ?_
      refine WC.region ?_
      rcases PV.intCases a with ⟨z, he1⟩ | he1
      · replace H := H.1 z he1
        obtain ⟨a2, b_2, hv1, hN1, one1, one2, hL1⟩ := VR.intOut (ha.goL gr3 hap0) he1
        refine WL.y rfl (assertYesV Tryd.underlying116 rfl rfl hv1) ?_
        refine WL.y rfl (Yld.pure tab_ok rfl) ?_
        refine WL.y rfl (Yld.pure tab_ok rfl) ?_
        refine WL.nil (WX.then_normal ?_)
        refine WC.cond rfl (fun _ => ?_) (fun h => by cases h)
        refine WC.seq ?_
        refine WC.region ?_
        refine WL.alloc rfl zero116 (fun g1 w4 hB2 hg3 hl1 => ?_)
        have gr4 := GrL.add0 gr3 hg3
        have k3 := k2.g0 hg3
        have k4 := hN1.grown hg3
        refine WL.storeW (vs := [a2, b_2]) tab_ok rfl rfl rfl (all1c one1 (all1c one2 all1n)) hB2 rfl rfl (fun w5 hB3 hg4 => ?_)
        have gr5 : GrL [(some g_k)] w w5 := GrL.mod gr4 hg4 (InP.ge (Ge.le (Ge.box hl1) (GrL.sizeL gr3)))
        have k5 := k3.go hg4 (Dj.new k2.lt' (Ge.box hl1))
        have k6 := Nm.goV k4 hL1 (GrL.of1 hg4) (apC (DnD.one (ha.inp hap0 (InP.ge (Ge.le (Ge.box hl1) (GrL.sizeL gr3))))) apN)
        refine WL.nil (WX.then_normal ?_)
        refine WC.seq ?_
        obtain ⟨z2, he2, H⟩ := H
        obtain ⟨a3, b_3, hv2, hN2, one3, one4, hL2⟩ := VR.intOut (hb.goL gr5 hap1) he2
        refine WC.chainF (fun k => !(Nat.beq k 5)) (LD [1] (fun w' => Bl w' g1 116 [a2, b_2])) mixed (by kernel_rfl) (fun k w' h _ => (bl_eqv h hB3)) ?_
        refine WJ.y rfl rfl (fun w' hw' => Yld.fa0 (o := 0) (by kernel_rfl) rfl) ?_
        refine WJ.y rfl rfl (fun w' hw' => Yld.bagg (vs := [a2, b_2]) tab_ok (hw' rfl) rfl rfl rfl rfl) ?_
        refine WJ.y rfl rfl (fun w' hw' => Yld.pure tab_ok rfl) ?_
        refine WJ.y rfl rfl (fun w' hw' => assertOneV Tryd.underlying116 rfl rfl hv2) ?_
        refine WJ.y rfl rfl (fun w' hw' => Yld.fld flds_ok rfl rfl rfl) ?_
        refine WJ.call rfl (wants_none) rfl rfl (W_num_Num_Cmp k6 hN2 H) (fun v w' h w2 e => DD.keep (Bl.g0 hB3 (gr_eqv h.1 e))) ?_
        rintro _ w6 ⟨hg5, t51, rfl, H⟩
        have gr6 := GrL.add0 gr5 hg5
        have k7 := k5.g0 hg5
        have k8 := hB3.g0 hg5
        refine WJ.y rfl rfl (fun w' hw' => Yld.pure tab_ok rfl) ?_
        refine WJ.y rfl rfl (fun w' hw' => Yld.pure tab_ok rfl) ?_
        refine WJ.y rfl rfl (fun w' hw' => Yld.pure tab_ok rfl) ?_
        refine WJ.nil (WX.then_normal ?_)
        refine WC.ret (WX.block_ret (WX.then_ret ?_))
        exact WX.ret2 rfl rfl rfl ⟨gr6, decide (t51 = (0 : Int)), .nilIface, Er.ok, k_, rfl, (ErrR.okR (S := S) (w := w6)), k7, H⟩
      · replace H := H.2 he1
        refine WL.y rfl (assertNoV (z := .agg ⟨[.bool false, .slice none 0 0]⟩) Tryd.underlying116 rfl (fun _ => by kernel_rfl) (ha.goL gr3 hap0) rfl (tyP_int he1)) ?_
        refine WL.y rfl (Yld.pure tab_ok rfl) ?_
        refine WL.y rfl (Yld.pure tab_ok rfl) ?_
        refine WL.nil (WX.then_normal ?_)
        refine WC.cond rfl (fun h => by cases h) (fun _ => ?_)
        refine WC.seq ?_
        refine WC.region ?_
        refine WL.y rfl (assertNoV (z := vs ([] : List UInt8)) Tryd.underlying117 rfl (fun _ => by kernel_rfl) (ha.goL gr3 hap0) rfl (tyP_no rfl a)) ?_
        refine WL.y rfl (Yld.pure tab_ok rfl) ?_
        refine WL.y rfl (Yld.pure tab_ok rfl) ?_
        refine WL.nil (WX.then_normal ?_)
        refine WC.cond rfl (fun h => by cases h) (fun _ => ?_)
        refine WC.seq ?_
        refine WC.region ?_
        rcases PV.empCases a with he3 | he3
        · replace H := H.1 he3
          obtain ⟨g_l, A_l, c_l, hv3, hB4, hR1, hr1, hd1⟩ := VR.empOut (ha.goL gr3 hap0) he3
          refine WL.y rfl (assertYesV Tryd.underlying85 rfl rfl hv3) ?_
          refine WL.y rfl (Yld.pure tab_ok rfl) ?_
          refine WL.y rfl (Yld.pure tab_ok rfl) ?_
          refine WL.nil (WX.then_normal ?_)
          refine WC.cond rfl (fun _ => ?_) (fun h => by cases h)
          refine WC.seq ?_
          refine WC.region ?_
          refine WL.y rfl (Yld.pure tab_ok rfl) ?_
          refine WL.nil (WX.then_normal ?_)
          refine WC.seq ?_
          refine WC.chainF (fun k => !(Nat.beq k 11)) (LD [4, 9] (fun w' => Bl w' g_l 128 [.slice A_l ((([] : List PV)).length) c_l, .bool false, .int .i64 (0 : Int)])) mixed (by kernel_rfl) (fun k w' h _ => (bl_eqv h hB4)) ?_
          refine WJ.y rfl rfl (fun w' hw' => Yld.pure tab_ok rfl) ?_
          refine WJ.y rfl rfl (fun w' hw' => Yld.pure tab_ok rfl) ?_
          refine WJ.y rfl rfl (fun w' hw' => Yld.pure tab_ok rfl) ?_
          refine WJ.y rfl rfl (fun w' hw' => Yld.fa0 (o := 0) (by kernel_rfl) rfl) ?_
          refine WJ.y rfl rfl (fun w' hw' => Yld.bload tab_ok (hw' rfl) rfl rfl rfl) ?_
          refine WJ.y rfl rfl (fun w' hw' => Yld.pure tab_ok rfl) ?_
          exact H.elim
        · replace H := H.2 he3
          refine WL.y rfl (assertNoV (z := .pointer none) Tryd.underlying85 rfl (fun _ => by kernel_rfl) (ha.goL gr3 hap0) rfl (tyP_emp he3)) ?_
          refine WL.y rfl (Yld.pure tab_ok rfl) ?_
          refine WL.y rfl (Yld.pure tab_ok rfl) ?_
          refine WL.nil (WX.then_normal ?_)
          refine WC.cond rfl (fun h => by cases h) (fun _ => ?_)
          refine WC.seq ?_
          refine WC.region ?_
          rcases PV.tupCases a with ⟨l, he4⟩ | he4
          · replace H := H.1 l he4
            obtain ⟨g_t, A_t, c_t, hs_t, hv4, hB5, hR2, hr2, hd2, hd3, hd4⟩ := VR.tupOut (ha.goL gr3 hap0) he4
            refine WL.y rfl (assertYesV Tryd.underlying92 rfl rfl hv4) ?_
            refine WL.y rfl (Yld.pure tab_ok rfl) ?_
            refine WL.y rfl (Yld.pure tab_ok rfl) ?_
            refine WL.nil (WX.then_normal ?_)
            refine WC.cond rfl (fun _ => ?_) (fun h => by cases h)
            refine WC.seq ?_
            refine WC.region ?_
            refine WL.y rfl (Yld.pure tab_ok rfl) ?_
            refine WL.nil (WX.then_normal ?_)
            refine WC.seq ?_
            obtain ⟨l2, he5, H⟩ := H
            obtain ⟨g_t2, A_t2, c_t2, hs_t2, hv5, hB6, hR3, hr3, hd5, hd6, hd7⟩ := VR.tupOut (hb.goL gr3 hap1) he5
            refine WC.chainF (fun k => !(Nat.beq k 11)) (LD [4, 9] (fun w' => Bl w' g_t 95 [.slice A_t ((l.map PV.int).length) c_t] ∧ Bl w' g_t2 95 [.slice A_t2 ((l2.map PV.int).length) c_t2])) mixed (by kernel_rfl) (fun k w' h _ => ⟨(bl_eqv h hB5), (bl_eqv h hB6)⟩) ?_
            refine WJ.y rfl rfl (fun w' hw' => Yld.pure tab_ok rfl) ?_
            refine WJ.y rfl rfl (fun w' hw' => Yld.pure tab_ok rfl) ?_
            refine WJ.y rfl rfl (fun w' hw' => Yld.pure tab_ok rfl) ?_
            refine WJ.y rfl rfl (fun w' hw' => Yld.fa0 (o := 0) (by kernel_rfl) rfl) ?_
            refine WJ.y rfl rfl (fun w' hw' => Yld.bload tab_ok (hw' rfl).1 rfl rfl rfl) ?_
            refine WJ.y rfl rfl (fun w' hw' => Yld.pure tab_ok rfl) ?_
            refine WJ.y rfl rfl (fun w' hw' => assertOneV Tryd.underlying92 rfl rfl hv5) ?_
            refine WJ.y rfl rfl (fun w' hw' => Yld.pure tab_ok rfl) ?_
            refine WJ.y rfl rfl (fun w' hw' => Yld.fa0 (o := 0) (by kernel_rfl) rfl) ?_
            refine WJ.y rfl rfl (fun w' hw' => Yld.bload tab_ok (hw' rfl).2 rfl rfl rfl) ?_
            refine WJ.y rfl rfl (fun w' hw' => Yld.pure tab_ok rfl) ?_
            exact False.elim H
          · replace H := H.2 he4
            refine WL.y rfl (assertNoV (z := .pointer none) Tryd.underlying92 rfl (fun _ => by kernel_rfl) (ha.goL gr3 hap0) rfl (tyP_tup he4)) ?_
            refine WL.y rfl (Yld.pure tab_ok rfl) ?_
            refine WL.y rfl (Yld.pure tab_ok rfl) ?_
            refine WL.nil (WX.then_normal ?_)
            refine WC.cond rfl (fun h => by cases h) (fun _ => ?_)
            refine WC.seq ?_
            refine WC.region ?_
            refine WL.y rfl (assertNoV (z := .pointer none) Tryd.underlying139 rfl (fun _ => by kernel_rfl) (ha.goL gr3 hap0) rfl (tyP_no rfl a)) ?_
            refine WL.y rfl (Yld.pure tab_ok rfl) ?_
            refine WL.y rfl (Yld.pure tab_ok rfl) ?_
            refine WL.nil (WX.then_normal ?_)
            refine WC.cond rfl (fun h => by cases h) (fun _ => ?_)
            refine WC.seq ?_
            refine WC.region ?_
            refine WL.y rfl (assertNoV (z := .pointer none) Tryd.underlying159 rfl (fun _ => by kernel_rfl) (ha.goL gr3 hap0) rfl (tyP_no rfl a)) ?_
            refine WL.y rfl (Yld.pure tab_ok rfl) ?_
            refine WL.y rfl (Yld.pure tab_ok rfl) ?_
            refine WL.nil (WX.then_normal ?_)
            refine WC.cond rfl (fun h => by cases h) (fun _ => ?_)
            refine WC.seq ?_
            refine WC.region ?_
            refine WL.y rfl (assertNoI (z := .nilIface) Tryd.underlying122 (fun _ => by kernel_rfl) (by decide +kernel) (ha.goL gr3 hap0) rfl) ?_
            refine WL.y rfl (Yld.pure tab_ok rfl) ?_
            refine WL.y rfl (Yld.pure tab_ok rfl) ?_
            refine WL.nil (WX.then_normal ?_)
            refine WC.cond rfl (fun h => by cases h) (fun _ => ?_)
            refine WC.skip (WX.block_normal (WX.then_normal ?_))
            refine WC.seq ?_
            exact False.elim H

set_option maxHeartbeats 8000000 in
theorem W_pval_looker_less {S : List Nat} {B : Nat} {w : World} {g_k : Nat} {k_left : Int} {v_a : OV} {F_a : Nat → Prop} {a : PV} {v_b : OV} {F_b : Nat → Prop} {b : PV} {deep : Int} {K : Bool → Er → Int → Prop} (hG : GB S B w) (hB : B ≤ w.heap.size) (hP : AllP (fun p => Ge p B) [(some g_k)]) (hS3 : 3 ∈ S) (hS7 : 7 ∈ S) (hk : Bl w g_k 103 [.int .i64 k_left]) (ha : RelD deV w [(v_a, F_a)] [a]) (hb : RelD deV w [(v_b, F_b)] [b]) (hap0 : AllP (DnD deV [(v_a, F_a)] [a]) [(some g_k)]) (hap1 : AllP (DnD deV [(v_b, F_b)] [b]) [(some g_k)]) (H : M_pval_looker_less k_left a b deep K) : Fn Tryd.prog 43 ⟨[.pointer (some ⟨g_k, 0, none⟩), v_a.1, v_b.1, .int .i64 deep]⟩ w (fun v w' => GrL [(some g_k)] w w' ∧ ∃ (r0 : Bool), ∃ (v_r1 : Value), ∃ (r1 : Er), ∃ (k_left2 : Int), v = .tuple #[.bool r0, v_r1] ∧ ErrR S w' v_r1 r1 ∧ Bl w' g_k 103 [.int .i64 k_left2] ∧ K r0 r1 k_left2) := by
  unfold M_pval_looker_less at H
  refine Fn.enter (by kernel_rfl) Tryd.func43 rfl Tryd.ntmps43 rfl ?_
  have hNoAt : AllP (NoAt w) [(some g_k)] := (apC (NoAt.bl hk rfl) apN)
  refine WC.seq ?_
  refine WC.region ?_
  refine WL.y rfl (Yld.pure tab_ok rfl) ?_
  refine WL.y rfl (Yld.pure tab_ok rfl) ?_
  refine WL.nil (WX.then_normal ?_)
  refine WC.seq ?_
  refine WC.seq ?_
  refine WC.region ?_
  refine WL.y rfl (Yld.pure tab_ok rfl) ?_
  refine WL.y rfl (Yld.pure tab_ok rfl) ?_
  refine WL.call rfl rfl (W_pval_looker_look hG (Nat.le_trans hB (Nat.le_refl _)) (apC (InP.toGe (InP.mem (List.Mem.head _)) hP hB) apN) hS7 hk H) ?_
  rintro v_err w1 ⟨hgl1, _, err, k_, rfl, herr, hB1, H⟩
  have gr1 : GrL [(some g_k)] w w1 := GrL.modL (GrL.refl _) hgl1 (apC (InP.mem (List.Mem.head _)) apN)
  refine WL.y rfl (Yld.pure tab_ok rfl) ?_
  refine WL.nil (WX.then_normal ?_)
  refine WC.seq ?_
  refine WC.region ?_
  refine WL.y rfl (Yld.pure tab_ok rfl) ?_
  refine WL.y rfl (Yld.errneq Tryd.underlying34 herr rfl) ?_
  refine WL.nil (WX.then_normal ?_)
  refine WC.cond rfl (fun b1 => ?_) (fun b1 => ?_)
  · replace H := H.1 (nd_true b1)
    refine WC.seq ?_
    refine WC.region ?_
    refine WL.y rfl (Yld.pure tab_ok rfl) ?_
    refine WL.y rfl (Yld.pure tab_ok rfl) ?_
    refine WL.y rfl (Yld.pure tab_ok rfl) ?_
    refine WL.nil (WX.then_normal ?_)
    refine WC.ret (WX.then_ret ?_)
    exact WX.ret2 rfl rfl rfl ⟨gr1, false, v_err, err, k_, rfl, herr, hB1, H⟩
  · replace H := H.2 (nd_false b1)
    refine WC.skip (WX.then_normal ?_)
    refine WC.seq ?_
    refine WC.seq ?_
    refine WC.region ?_
    refine WL.y rfl (Yld.pure tab_ok rfl) ?_
    obtain ⟨h1, H⟩ := H
    refine WL.kindV rfl (ha.goL gr1 hap0) h1 rfl (fun w2 hg1 => ?_)
    have gr2 := GrL.add0 gr1 hg1
    have k1 := hB1.g0 hg1
    refine WL.y rfl (Yld.pure tab_ok rfl) ?_
    obtain ⟨h2, H⟩ := H
    refine WL.kindV rfl (hb.goL gr2 hap1) h2 rfl (fun w3 hg2 => ?_)
    have gr3 := GrL.add0 gr2 hg2
    have k2 := k1.g0 hg2
    refine WL.y rfl (Yld.pure tab_ok rfl) ?_
    refine WL.nil (WX.then_normal ?_)
    refine WC.cond rfl (fun b2 => ?_) (fun b2 => ?_)
    · replace H := H.1 (nd_true b2)
      refine WC.seq ?_
      refine WC.quiet mixed (by kernel_rfl) ?_
      obtain ⟨vE1, _, hE1⟩ := GOK.get (hG.goL gr3 hP).ok 3 1 hS3 rfl rfl
      refine WQ.y rfl (Yld.cell tab_ok (ErrR.cell hE1 rfl) rfl rfl) ?_
      refine WQ.y rfl (Yld.pure tab_ok rfl) ?_
      refine WQ.y rfl (Yld.pure tab_ok rfl) ?_
      refine WQ.nil (WX.then_normal ?_)
      refine WC.ret (WX.then_ret ?_)
      exact WX.ret2 rfl rfl rfl ⟨gr3, false, vE1, (Er.e 3), k_, rfl, hE1, k2, H⟩
    · replace H := H.2 (nd_false b2)
      refine WC.skip (WX.then_normal ?_)
      refine WC.seq ?_
      refine WC.seq ?_
      refine WC.region ?_
      refine WL.y rfl (Yld.pure tab_ok rfl) ?_
      refine WL.nil (WX.then_normal ?_)
      refine WC.block ?_
      refine WC.seq ?_
      refine WC.region ?_
      refine WL.y rfl (assertNoV (z := .bool false) Tryd.underlying113 rfl (fun _ => by kernel_rfl) (ha.goL gr3 hap0) rfl (tyP_no rfl a)) ?_
      refine WL.y rfl (Yld.pure tab_ok rfl) ?_
      refine WL.y rfl (Yld.pure tab_ok rfl) ?_
      refine WL.nil (WX.then_normal ?_)
      refine WC.cond rfl (fun h => by cases h) (fun _ => ?_)
      refine WC.seq ?_
      refine WC.region ?_
      rcases PV.intCases a with ⟨z, he1⟩ | he1
      · replace H := H.1 z he1
        obtain ⟨a2, b_2, hv1, hN1, one1, one2, hL1⟩ := VR.intOut (ha.goL gr3 hap0) he1
        refine WL.y rfl (assertYesV Tryd.underlying116 rfl rfl hv1) ?_
        refine WL.y rfl (Yld.pure tab_ok rfl) ?_
        refine WL.y rfl (Yld.pure tab_ok rfl) ?_
        refine WL.nil (WX.then_normal ?_)
        refine WC.cond rfl (fun _ => ?_) (fun h => by cases h)
        refine WC.seq ?_
        refine WC.region ?_
        refine WL.alloc rfl zero116 (fun g1 w4 hB2 hg3 hl1 => ?_)
        have gr4 := GrL.add0 gr3 hg3
        have k3 := k2.g0 hg3
        have k4 := hN1.grown hg3
        refine WL.storeW (vs := [a2, b_2]) tab_ok rfl rfl rfl (all1c one1 (all1c one2 all1n)) hB2 rfl rfl (fun w5 hB3 hg4 => ?_)
        have gr5 : GrL [(some g_k)] w w5 := GrL.mod gr4 hg4 (InP.ge (Ge.le (Ge.box hl1) (GrL.sizeL gr3)))
        have k5 := k3.go hg4 (Dj.new k2.lt' (Ge.box hl1))
        have k6 := Nm.goV k4 hL1 (GrL.of1 hg4) (apC (DnD.one (ha.inp hap0 (InP.ge (Ge.le (Ge.box hl1) (GrL.sizeL gr3))))) apN)
        refine WL.nil (WX.then_normal ?_)
        refine WC.seq ?_
        obtain ⟨z2, he2, H⟩ := H
        obtain ⟨a3, b_3, hv2, hN2, one3, one4, hL2⟩ := VR.intOut (hb.goL gr5 hap1) he2
        refine WC.chainF (fun k => !(Nat.beq k 5)) (LD [1] (fun w' => Bl w' g1 116 [a2, b_2])) mixed (by kernel_rfl) (fun k w' h _ => (bl_eqv h hB3)) ?_
        refine WJ.y rfl rfl (fun w' hw' => Yld.fa0 (o := 0) (by kernel_rfl) rfl) ?_
        refine WJ.y rfl rfl (fun w' hw' => Yld.bagg (vs := [a2, b_2]) tab_ok (hw' rfl) rfl rfl rfl rfl) ?_
        refine WJ.y rfl rfl (fun w' hw' => Yld.pure tab_ok rfl) ?_
        refine WJ.y rfl rfl (fun w' hw' => assertOneV Tryd.underlying116 rfl rfl hv2) ?_
        refine WJ.y rfl rfl (fun w' hw' => Yld.fld flds_ok rfl rfl rfl) ?_
        refine WJ.call rfl (wants_none) rfl rfl (W_num_Num_Cmp k6 hN2 H) (fun v w' h w2 e => DD.keep (Bl.g0 hB3 (gr_eqv h.1 e))) ?_
        rintro _ w6 ⟨hg5, t46, rfl, H⟩
        have gr6 := GrL.add0 gr5 hg5
        have k7 := k5.g0 hg5
        have k8 := hB3.g0 hg5
        refine WJ.y rfl rfl (fun w' hw' => Yld.pure tab_ok rfl) ?_
        refine WJ.y rfl rfl (fun w' hw' => Yld.pure tab_ok rfl) ?_
        refine WJ.y rfl rfl (fun w' hw' => Yld.pure tab_ok rfl) ?_
        refine WJ.nil (WX.then_normal ?_)
        refine WC.ret (WX.block_ret (WX.then_ret ?_))
        exact WX.ret2 rfl rfl rfl ⟨gr6, decide (t46 < (0 : Int)), .nilIface, Er.ok, k_, rfl, (ErrR.okR (S := S) (w := w6)), k7, H⟩
      · replace H := H.2 he1
        refine WL.y rfl (assertNoV (z := .agg ⟨[.bool false, .slice none 0 0]⟩) Tryd.underlying116 rfl (fun _ => by kernel_rfl) (ha.goL gr3 hap0) rfl (tyP_int he1)) ?_
        refine WL.y rfl (Yld.pure tab_ok rfl) ?_
        refine WL.y rfl (Yld.pure tab_ok rfl) ?_
        refine WL.nil (WX.then_normal ?_)
        refine WC.cond rfl (fun h => by cases h) (fun _ => ?_)
        refine WC.seq ?_
        refine WC.region ?_
        refine WL.y rfl (assertNoV (z := vs ([] : List UInt8)) Tryd.underlying117 rfl (fun _ => by kernel_rfl) (ha.goL gr3 hap0) rfl (tyP_no rfl a)) ?_
        refine WL.y rfl (Yld.pure tab_ok rfl) ?_
        refine WL.y rfl (Yld.pure tab_ok rfl) ?_
        refine WL.nil (WX.then_normal ?_)
        refine WC.cond rfl (fun h => by cases h) (fun _ => ?_)
        refine WC.seq ?_
        refine WC.region ?_
        rcases PV.empCases a with he3 | he3
        · replace H := H.1 he3
          obtain ⟨g_l, A_l, c_l, hv3, hB4, hR1, hr1, hd1⟩ := VR.empOut (ha.goL gr3 hap0) he3
          refine WL.y rfl (assertYesV Tryd.underlying85 rfl rfl hv3) ?_
          refine WL.y rfl (Yld.pure tab_ok rfl) ?_
          refine WL.y rfl (Yld.pure tab_ok rfl) ?_
          refine WL.nil (WX.then_normal ?_)
          refine WC.cond rfl (fun _ => ?_) (fun h => by cases h)
          refine WC.seq ?_
          refine WC.region ?_
          refine WL.y rfl (Yld.pure tab_ok rfl) ?_
          refine WL.nil (WX.then_normal ?_)
          refine WC.seq ?_
          refine WC.chainF (fun k => !(Nat.beq k 11)) (LD [4, 9] (fun w' => Bl w' g_l 128 [.slice A_l ((([] : List PV)).length) c_l, .bool false, .int .i64 (0 : Int)])) mixed (by kernel_rfl) (fun k w' h _ => (bl_eqv h hB4)) ?_
          refine WJ.y rfl rfl (fun w' hw' => Yld.pure tab_ok rfl) ?_
          refine WJ.y rfl rfl (fun w' hw' => Yld.pure tab_ok rfl) ?_
          refine WJ.y rfl rfl (fun w' hw' => Yld.pure tab_ok rfl) ?_
          refine WJ.y rfl rfl (fun w' hw' => Yld.fa0 (o := 0) (by kernel_rfl) rfl) ?_
          refine WJ.y rfl rfl (fun w' hw' => Yld.bload tab_ok (hw' rfl) rfl rfl rfl) ?_
          refine WJ.y rfl rfl (fun w' hw' => Yld.pure tab_ok rfl) ?_
          exact H.elim
        · replace H := H.2 he3
          refine WL.y rfl (assertNoV (z := .pointer none) Tryd.underlying85 rfl (fun _ => by kernel_rfl) (ha.goL gr3 hap0) rfl (tyP_emp he3)) ?_
          refine WL.y rfl (Yld.pure tab_ok rfl) ?_
          refine WL.y rfl (Yld.pure tab_ok rfl) ?_
          refine WL.nil (WX.then_normal ?_)
          refine WC.cond rfl (fun h => by cases h) (fun _ => ?_)
          refine WC.seq ?_
          refine WC.region ?_
          rcases PV.tupCases a with ⟨l, he4⟩ | he4
          · replace H := H.1 l he4
            obtain ⟨g_t, A_t, c_t, hs_t, hv4, hB5, hR2, hr2, hd2, hd3, hd4⟩ := VR.tupOut (ha.goL gr3 hap0) he4
            refine WL.y rfl (assertYesV Tryd.underlying92 rfl rfl hv4) ?_
            refine WL.y rfl (Yld.pure tab_ok rfl) ?_
            refine WL.y rfl (Yld.pure tab_ok rfl) ?_
            refine WL.nil (WX.then_normal ?_)
            refine WC.cond rfl (fun _ => ?_) (fun h => by cases h)
            refine WC.seq ?_
            refine WC.region ?_
            refine WL.y rfl (Yld.pure tab_ok rfl) ?_
            refine WL.nil (WX.then_normal ?_)
            refine WC.seq ?_
            obtain ⟨l2, he5, H⟩ := H
            obtain ⟨g_t2, A_t2, c_t2, hs_t2, hv5, hB6, hR3, hr3, hd5, hd6, hd7⟩ := VR.tupOut (hb.goL gr3 hap1) he5
            refine WC.chainF (fun k => !(Nat.beq k 11)) (LD [4, 9] (fun w' => Bl w' g_t 95 [.slice A_t ((l.map PV.int).length) c_t] ∧ Bl w' g_t2 95 [.slice A_t2 ((l2.map PV.int).length) c_t2])) mixed (by kernel_rfl) (fun k w' h _ => ⟨(bl_eqv h hB5), (bl_eqv h hB6)⟩) ?_
            refine WJ.y rfl rfl (fun w' hw' => Yld.pure tab_ok rfl) ?_
            refine WJ.y rfl rfl (fun w' hw' => Yld.pure tab_ok rfl) ?_
            refine WJ.y rfl rfl (fun w' hw' => Yld.pure tab_ok rfl) ?_
            refine WJ.y rfl rfl (fun w' hw' => Yld.fa0 (o := 0) (by kernel_rfl) rfl) ?_
            refine WJ.y rfl rfl (fun w' hw' => Yld.bload tab_ok (hw' rfl).1 rfl rfl rfl) ?_
            refine WJ.y rfl rfl (fun w' hw' => Yld.pure tab_ok rfl) ?_
            refine WJ.y rfl rfl (fun w' hw' => assertOneV Tryd.underlying92 rfl rfl hv5) ?_
            refine WJ.y rfl rfl (fun w' hw' => Yld.pure tab_ok rfl) ?_
            refine WJ.y rfl rfl (fun w' hw' => Yld.fa0 (o := 0) (by kernel_rfl) rfl) ?_
            refine WJ.y rfl rfl (fun w' hw' => Yld.bload tab_ok (hw' rfl).2 rfl rfl rfl) ?_
            refine WJ.y rfl rfl (fun w' hw' => Yld.pure tab_ok rfl) ?_
            exact False.elim H
          · replace H := H.2 he4
            refine WL.y rfl (assertNoV (z := .pointer none) Tryd.underlying92 rfl (fun _ => by kernel_rfl) (ha.goL gr3 hap0) rfl (tyP_tup he4)) ?_
            refine WL.y rfl (Yld.pure tab_ok rfl) ?_
            refine WL.y rfl (Yld.pure tab_ok rfl) ?_
            refine WL.nil (WX.then_normal ?_)
            refine WC.cond rfl (fun h => by cases h) (fun _ => ?_)
            refine WC.skip (WX.block_normal (WX.then_normal ?_))
            refine WC.seq ?_
            refine WC.quiet mixed (by kernel_rfl) ?_
            obtain ⟨vE2, _, hE2⟩ := GOK.get (hG.goL gr3 hP).ok 3 1 hS3 rfl rfl
            refine WQ.y rfl (Yld.cell tab_ok (ErrR.cell hE2 rfl) rfl rfl) ?_
            refine WQ.y rfl (Yld.pure tab_ok rfl) ?_
            refine WQ.y rfl (Yld.pure tab_ok rfl) ?_
            refine WQ.nil (WX.then_normal ?_)
            refine WC.ret ?_
            exact WX.ret2 rfl rfl rfl ⟨gr3, false, vE2, (Er.e 3), k_, rfl, hE2, k2, H⟩

set_option maxHeartbeats 8000000 in
theorem W_pval_looker_first {S : List Nat} {B : Nat} {w : World} {g_k : Nat} {k_left : Int} {a : List PV} {A_a : Option Addr} {c_a : Nat} {hs_a : List VH} {b : List PV} {A_b : Option Addr} {c_b : Nat} {hs_b : List VH} {deep : Int} {n_a : Nat} {n_b : Nat} {K : Bool → Er → Int → Prop} (hG : GB S B w) (hB : B ≤ w.heap.size) (hP : AllP (fun p => Ge p B) [(some g_k)]) (hS3 : 3 ∈ S) (hS7 : 7 ∈ S) (hk : Bl w g_k 103 [.int .i64 k_left]) (ha : Rd vv w A_a c_a hs_a) (hn_a : n_a = a.length) (hr_a : RelD deV w hs_a a) (hb : Rd vv w A_b c_b hs_b) (hn_b : n_b = b.length) (hr_b : RelD deV w hs_b b) (hap0 : AllP (Dn hs_a (blk A_a)) [(some g_k)]) (hap1 : AllP (DnD deV hs_a a) [(some g_k)]) (hap2 : AllP (Dn hs_b (blk A_b)) [(some g_k)]) (hap3 : AllP (DnD deV hs_b b) [(some g_k)]) (H : M_pval_looker_first k_left a b deep K) : Fn Tryd.prog 64 ⟨[.pointer (some ⟨g_k, 0, none⟩), .slice A_a n_a c_a, .slice A_b n_b c_b, .int .i64 deep]⟩ w (fun v w' => GrL [(some g_k)] w w' ∧ ∃ (r0 : Bool), ∃ (v_r1 : Value), ∃ (r1 : Er), ∃ (k_left2 : Int), v = .tuple #[.bool r0, v_r1] ∧ ErrR S w' v_r1 r1 ∧ Bl w' g_k 103 [.int .i64 k_left2] ∧ K r0 r1 k_left2) := by
  subst hn_a
  subst hn_b
  unfold M_pval_looker_first at H
  refine Fn.enter (by kernel_rfl) Tryd.func64 rfl Tryd.ntmps64 rfl ?_
  replace H := H (by rw [← hr_a.1]; exact Nat.le_trans ha.cap ha.max)
  replace H := H (by rw [← hr_b.1]; exact Nat.le_trans hb.cap hb.max)
  have hNoAt : AllP (NoAt w) [(some g_k)] := (apC (NoAt.bl hk rfl) apN)
  refine WC.seq ?_
  refine WC.region ?_
  refine WL.y rfl (Yld.pure tab_ok rfl) ?_
  refine WL.y rfl (Yld.pure tab_ok rfl) ?_
  refine WL.nil (WX.then_normal ?_)
  refine WC.seq ?_
  refine WC.seq ?_
  refine WC.region ?_
  refine WL.y rfl (Yld.pure tab_ok rfl) ?_
  refine WL.y rfl (Yld.pure tab_ok rfl) ?_
  refine WL.y rfl (Yld.pure tab_ok rfl) ?_
  refine WL.y rfl (Yld.pure tab_ok rfl) ?_
  refine WL.y rfl (Yld.min2 rfl rfl) ?_
  refine WL.y rfl (Yld.pure tab_ok rfl) ?_
  refine WL.nil (WX.then_normal ?_)
  refine WC.block ?_
  obtain ⟨I1, mu1, h0_1, HR1⟩ := H
  refine WC.loopF (fun n' L' w' => ∃ (t19 : Int), ∃ (k0 : Int), n' = mu1 t19 k0 ∧ L' = [(0, .pointer (some ⟨g_k, 0, none⟩)), (1, .slice A_a a.length c_a), (2, .slice A_b b.length c_b), (3, .int .i64 deep), (18, .int .i64 (if (b.length : Int) < (a.length : Int) then (b.length : Int) else (a.length : Int))), (19, .int .i64 t19)] ∧ I1 t19 k0 ∧ GrL [(some g_k)] w w' ∧ Bl w' g_k 103 [.int .i64 k0]) _ _ ⟨(0 : Int), k_left, rfl, rfl, h0_1, (GrL.refl _), hk⟩ (by repeat (first | exact Sub.nil | refine Sub.cons rfl ?_)) ?_
  clear h0_1
  rintro _ _ w1 ⟨t19, k0, rfl, rfl, hI1, gr1, k1⟩
  have H := HR1 t19 k0 hI1
  refine WC.seq ?_
  refine WC.region ?_
  refine WL.y rfl (Yld.pure tab_ok rfl) ?_
  refine WL.nil (WX.then_normal ?_)
  refine WC.seq ?_
  refine WC.cond rfl (fun b1 => ?_) (fun b1 => ?_)
  · replace H := H.1 (of_decide_eq_true b1)
    refine WC.skip (WX.then_normal ?_)
    refine WC.seq ?_
    refine WC.block ?_
    refine WC.seq ?_
    refine WC.region ?_
    refine WL.y rfl (Yld.pure tab_ok rfl) ?_
    refine WL.y rfl (Yld.pure tab_ok rfl) ?_
    refine WL.nil (WX.then_normal ?_)
    refine WC.seq ?_
    refine WC.chainF (fun k => !(Nat.beq k 11)) (LD [4, 8] (fun w' => Rd vv w' A_a c_a hs_a ∧ Rd vv w' A_b c_b hs_b)) mixed (by kernel_rfl) (fun k w' h _ => ⟨(rd_eqv h (ha.goL gr1 hap0)), (rd_eqv h (hb.goL gr1 hap2))⟩) ?_
    refine WJ.y rfl rfl (fun w' hw' => Yld.pure tab_ok rfl) ?_
    refine WJ.y rfl rfl (fun w' hw' => Yld.pure tab_ok rfl) ?_
    refine WJ.y rfl rfl (fun w' hw' => Yld.pure tab_ok rfl) ?_
    obtain ⟨h1, H⟩ := H
    refine WJ.y rfl rfl (fun w' hw' => Yld.iaddrW tab_ok (ha.goL gr1 hap0) rfl rfl hr_a.1.symm rfl h1.1 h1.2) ?_
    obtain ⟨⟨v_el, F_el⟩, eh1, hR1⟩ := RelD.at (hr_a.goL gr1 hap1) vh0 PV.nil (j := t19.toNat) (Nat.lt_of_lt_of_eq (iltN h1 hr_a.1.symm) (hr_a.goL gr1 hap1).1)
    have hv1 : RelD deV w1 [(v_el, F_el)] [a.getD t19.toNat PV.nil] := RelD.cons hR1 RelD.nil
    refine WJ.y rfl rfl (fun w' hw' => Yld.to (v := v_el.1) (Yld.iload vh0 tab_ok (hw' rfl).1 rfl rfl (iltN h1 hr_a.1.symm)) (congrArg vv eh1)) ?_
    refine WJ.y rfl rfl (fun w' hw' => Yld.pure tab_ok rfl) ?_
    refine WJ.y rfl rfl (fun w' hw' => Yld.pure tab_ok rfl) ?_
    obtain ⟨h2, H⟩ := H
    refine WJ.y rfl rfl (fun w' hw' => Yld.iaddrW tab_ok (hb.goL gr1 hap2) rfl rfl hr_b.1.symm rfl h2.1 h2.2) ?_
    obtain ⟨⟨v_el2, F_el2⟩, eh2, hR2⟩ := RelD.at (hr_b.goL gr1 hap3) vh0 PV.nil (j := t19.toNat) (Nat.lt_of_lt_of_eq (iltN h2 hr_b.1.symm) (hr_b.goL gr1 hap3).1)
    have hv2 : RelD deV w1 [(v_el2, F_el2)] [b.getD t19.toNat PV.nil] := RelD.cons hR2 RelD.nil
    refine WJ.y rfl rfl (fun w' hw' => Yld.to (v := v_el2.1) (Yld.iload vh0 tab_ok (hw' rfl).2 rfl rfl (iltN h2 hr_b.1.symm)) (congrArg vv eh2)) ?_
    refine WJ.y rfl rfl (fun w' hw' => Yld.pure tab_ok rfl) ?_
    obtain ⟨h3, H⟩ := H
    refine WJ.y rfl rfl (fun w' hw' => Yld.add rfl rfl h3) ?_
    refine WJ.call rfl wants_none rfl rfl (W_pval_looker_equal (hG.goL gr1 hP) (Nat.le_trans hB (GrL.sizeL gr1)) (apC (InP.toGe (InP.mem (List.Mem.head _)) hP hB) apN) hS7 k1 hv1 hv2 (apC (DnD.cons (DnD.at (hr_a.inp hap1 (InP.mem (List.Mem.head _))) (hr_a.goL gr1 hap1).1 (Nat.lt_of_lt_of_eq (iltN h1 hr_a.1.symm) (hr_a.goL gr1 hap1).1) eh1) DnD.nil) apN) (apC (DnD.cons (DnD.at (hr_b.inp hap3 (InP.mem (List.Mem.head _))) (hr_b.goL gr1 hap3).1 (Nat.lt_of_lt_of_eq (iltN h2 hr_b.1.symm) (hr_b.goL gr1 hap3).1) eh2) DnD.nil) apN) H) (fun v w' h w2 e => DD.past (by kernel_rfl)) ?_
    rintro _ w2 ⟨hgl1, t340, v_t341, t341, k_, rfl, ht341, hB1, H⟩
    have gr2 : GrL [(some g_k)] w w2 := GrL.modL gr1 hgl1 (apC (InP.mem (List.Mem.head _)) apN)
    refine WJ.y rfl rfl (fun w' hw' => Yld.pure tab_ok rfl) ?_
    refine WJ.y rfl rfl (fun w' hw' => Yld.pure tab_ok rfl) ?_
    refine WJ.y rfl rfl (fun w' hw' => Yld.pure tab_ok rfl) ?_
    refine WJ.y rfl rfl (fun w' hw' => Yld.pure tab_ok rfl) ?_
    refine WJ.y rfl rfl (fun w' hw' => Yld.pure tab_ok rfl) ?_
    refine WJ.nil (WX.then_normal ?_)
    refine WC.seq ?_
    refine WC.seq ?_
    refine WC.region ?_
    refine WL.y rfl (Yld.pure tab_ok rfl) ?_
    refine WL.y rfl (Yld.errneq Tryd.underlying34 ht341 rfl) ?_
    refine WL.nil (WX.then_normal ?_)
    refine WC.cond rfl (fun b2 => ?_) (fun b2 => ?_)
    · replace H := H.1 (nd_true b2)
      refine WC.seq ?_
      refine WC.region ?_
      refine WL.y rfl (Yld.pure tab_ok rfl) ?_
      refine WL.y rfl (Yld.pure tab_ok rfl) ?_
      refine WL.y rfl (Yld.pure tab_ok rfl) ?_
      refine WL.nil (WX.then_normal ?_)
      refine WC.ret (WX.then_ret (WX.block_ret (WX.then_ret (WX.then_ret (WX.block_ret (WX.then_ret ?_))))))
      exact WX.ret2 rfl rfl rfl ⟨gr2, false, v_t341, t341, k_, rfl, ht341, hB1, H⟩
    · replace H := H.2 (nd_false b2)
      refine WC.skip (WX.then_normal ?_)
      refine WC.seq ?_
      refine WC.region ?_
      refine WL.y rfl (Yld.pure tab_ok rfl) ?_
      refine WL.y rfl (Yld.pure tab_ok rfl) ?_
      refine WL.nil (WX.then_normal ?_)
      refine WC.cond rfl (fun b3 => ?_) (fun b3 => ?_)
      · replace H := H.1 (b3)
        refine WC.seq ?_
        refine WC.chainF (fun k => !(Nat.beq k 11)) (LD [4, 8] (fun w' => Rd vv w' A_a c_a hs_a ∧ Rd vv w' A_b c_b hs_b)) mixed (by kernel_rfl) (fun k w' h _ => ⟨(rd_eqv h (ha.goL gr2 hap0)), (rd_eqv h (hb.goL gr2 hap2))⟩) ?_
        refine WJ.y rfl rfl (fun w' hw' => Yld.pure tab_ok rfl) ?_
        refine WJ.y rfl rfl (fun w' hw' => Yld.pure tab_ok rfl) ?_
        refine WJ.y rfl rfl (fun w' hw' => Yld.pure tab_ok rfl) ?_
        obtain ⟨h4, H⟩ := H
        refine WJ.y rfl rfl (fun w' hw' => Yld.iaddrW tab_ok (ha.goL gr2 hap0) rfl rfl hr_a.1.symm rfl h4.1 h4.2) ?_
        obtain ⟨⟨v_el3, F_el3⟩, eh3, hR3⟩ := RelD.at (hr_a.goL gr2 hap1) vh0 PV.nil (j := t19.toNat) (Nat.lt_of_lt_of_eq (iltN h4 hr_a.1.symm) (hr_a.goL gr2 hap1).1)
        have hv3 : RelD deV w2 [(v_el3, F_el3)] [a.getD t19.toNat PV.nil] := RelD.cons hR3 RelD.nil
        refine WJ.y rfl rfl (fun w' hw' => Yld.to (v := v_el3.1) (Yld.iload vh0 tab_ok (hw' rfl).1 rfl rfl (iltN h4 hr_a.1.symm)) (congrArg vv eh3)) ?_
        refine WJ.y rfl rfl (fun w' hw' => Yld.pure tab_ok rfl) ?_
        refine WJ.y rfl rfl (fun w' hw' => Yld.pure tab_ok rfl) ?_
        obtain ⟨h5, H⟩ := H
        refine WJ.y rfl rfl (fun w' hw' => Yld.iaddrW tab_ok (hb.goL gr2 hap2) rfl rfl hr_b.1.symm rfl h5.1 h5.2) ?_
        obtain ⟨⟨v_el4, F_el4⟩, eh4, hR4⟩ := RelD.at (hr_b.goL gr2 hap3) vh0 PV.nil (j := t19.toNat) (Nat.lt_of_lt_of_eq (iltN h5 hr_b.1.symm) (hr_b.goL gr2 hap3).1)
        have hv4 : RelD deV w2 [(v_el4, F_el4)] [b.getD t19.toNat PV.nil] := RelD.cons hR4 RelD.nil
        refine WJ.y rfl rfl (fun w' hw' => Yld.to (v := v_el4.1) (Yld.iload vh0 tab_ok (hw' rfl).2 rfl rfl (iltN h5 hr_b.1.symm)) (congrArg vv eh4)) ?_
        refine WJ.y rfl rfl (fun w' hw' => Yld.pure tab_ok rfl) ?_
        obtain ⟨h6, H⟩ := H
        refine WJ.y rfl rfl (fun w' hw' => Yld.add rfl rfl h6) ?_
        refine WJ.call rfl wants_none rfl rfl (W_pval_looker_less (hG.goL gr2 hP) (Nat.le_trans hB (GrL.sizeL gr2)) (apC (InP.toGe (InP.mem (List.Mem.head _)) hP hB) apN) hS3 hS7 hB1 hv3 hv4 (apC (DnD.cons (DnD.at (hr_a.inp hap1 (InP.mem (List.Mem.head _))) (hr_a.goL gr2 hap1).1 (Nat.lt_of_lt_of_eq (iltN h4 hr_a.1.symm) (hr_a.goL gr2 hap1).1) eh3) DnD.nil) apN) (apC (DnD.cons (DnD.at (hr_b.inp hap3 (InP.mem (List.Mem.head _))) (hr_b.goL gr2 hap3).1 (Nat.lt_of_lt_of_eq (iltN h5 hr_b.1.symm) (hr_b.goL gr2 hap3).1) eh4) DnD.nil) apN) H) (fun v w' h w2 e => DD.past (by kernel_rfl)) ?_
        rintro _ w3 ⟨hgl2, t530, v_t531, t531, k_2, rfl, ht531, hB2, H⟩
        have gr3 : GrL [(some g_k)] w w3 := GrL.modL gr2 hgl2 (apC (InP.mem (List.Mem.head _)) apN)
        refine WJ.y rfl rfl (fun w' hw' => Yld.pure tab_ok rfl) ?_
        refine WJ.y rfl rfl (fun w' hw' => Yld.pure tab_ok rfl) ?_
        refine WJ.y rfl rfl (fun w' hw' => Yld.pure tab_ok rfl) ?_
        refine WJ.y rfl rfl (fun w' hw' => Yld.pure tab_ok rfl) ?_
        refine WJ.nil (WX.then_normal ?_)
        refine WC.ret (WX.block_ret (WX.then_ret (WX.then_ret (WX.block_ret (WX.then_ret ?_)))))
        exact WX.ret2 rfl rfl rfl ⟨gr3, t530, v_t531, t531, k_2, rfl, ht531, hB2, H⟩
      · replace H := H.2 (b3)
        refine WC.skip (WX.block_normal (WX.then_normal ?_))
        refine WC.region ?_
        obtain ⟨h7, H⟩ := H
        refine WL.y rfl (Yld.add rfl rfl h7) ?_
        refine WL.y rfl (Yld.pure tab_ok rfl) ?_
        refine WL.nil ?_
        exact WX.roundF _ ⟨t19 + (1 : Int), k_, rfl, rfl, H.1, gr2, hB1⟩ (by repeat (first | exact Sub.nil | refine Sub.cons rfl ?_)) H.2
  · replace H := H.2 (of_decide_eq_false b1)
    refine WC.exit (WX.then_exit (WX.then_exit (WX.block_same (WX.then_normal ?_))))
    refine WC.seq ?_
    refine WC.seq ?_
    refine WC.region ?_
    refine WL.y rfl (Yld.pure tab_ok rfl) ?_
    refine WL.y rfl (Yld.pure tab_ok rfl) ?_
    refine WL.y rfl (Yld.pure tab_ok rfl) ?_
    refine WL.y rfl (Yld.pure tab_ok rfl) ?_
    refine WL.y rfl (Yld.min2 rfl rfl) ?_
    refine WL.y rfl (Yld.pure tab_ok rfl) ?_
    refine WL.call rfl rfl (W_val_shallow (hG.goL gr1 hP).ok hS7 H) ?_
    rintro v_err _ ⟨rfl, _, err, rfl, herr, H⟩
    refine WL.y rfl (Yld.pure tab_ok rfl) ?_
    refine WL.nil (WX.then_normal ?_)
    refine WC.seq ?_
    refine WC.region ?_
    refine WL.y rfl (Yld.pure tab_ok rfl) ?_
    refine WL.y rfl (Yld.errneq Tryd.underlying34 herr rfl) ?_
    refine WL.nil (WX.then_normal ?_)
    refine WC.cond rfl (fun b4 => ?_) (fun b4 => ?_)
    · replace H := H.1 (nd_true b4)
      refine WC.seq ?_
      refine WC.region ?_
      refine WL.y rfl (Yld.pure tab_ok rfl) ?_
      refine WL.y rfl (Yld.pure tab_ok rfl) ?_
      refine WL.y rfl (Yld.pure tab_ok rfl) ?_
      refine WL.nil (WX.then_normal ?_)
      refine WC.ret (WX.then_ret ?_)
      exact WX.ret2 rfl rfl rfl ⟨gr1, false, v_err, err, k0, rfl, herr, k1, H⟩
    · replace H := H.2 (nd_false b4)
      refine WC.skip (WX.then_normal ?_)
      refine WC.seq ?_
      refine WC.region ?_
      refine WL.y rfl (Yld.pure tab_ok rfl) ?_
      refine WL.y rfl (Yld.pure tab_ok rfl) ?_
      refine WL.y rfl (Yld.pure tab_ok rfl) ?_
      refine WL.y rfl (Yld.pure tab_ok rfl) ?_
      refine WL.y rfl (Yld.pure tab_ok rfl) ?_
      refine WL.y rfl (Yld.pure tab_ok rfl) ?_
      refine WL.y rfl (Yld.pure tab_ok rfl) ?_
      refine WL.nil (WX.then_normal ?_)
      refine WC.ret ?_
      exact WX.ret2 rfl rfl rfl ⟨gr1, decide ((a.length : Int) < (b.length : Int)), .nilIface, Er.ok, k0, rfl, (ErrR.okR (S := S) (w := w1)), k1, H⟩

set_option maxHeartbeats 8000000 in
theorem W_val_looker_lessT {S : List Nat} {B : Nat} {w : World} {g_k : Nat} {k_left : Int} {v_a : OV} {F_a : Nat → Prop} {a : PV} {v_b : OV} {F_b : Nat → Prop} {b : PV} {deep : Int} {K : Bool → Er → Int → Prop} (hG : GB S B w) (hB : B ≤ w.heap.size) (hP : AllP (fun p => Ge p B) [(some g_k)]) (hS3 : 3 ∈ S) (hS7 : 7 ∈ S) (hk : Bl w g_k 103 [.int .i64 k_left]) (ha : RelD deV w [(v_a, F_a)] [a]) (hb : RelD deV w [(v_b, F_b)] [b]) (hap0 : AllP (DnD deV [(v_a, F_a)] [a]) [(some g_k)]) (hap1 : AllP (DnD deV [(v_b, F_b)] [b]) [(some g_k)]) (H : M_val_looker_lessT k_left a b deep K) : Fn Tryd.prog 43 ⟨[.pointer (some ⟨g_k, 0, none⟩), v_a.1, v_b.1, .int .i64 deep]⟩ w (fun v w' => GrL [(some g_k)] w w' ∧ ∃ (r0 : Bool), ∃ (v_r1 : Value), ∃ (r1 : Er), ∃ (k_left2 : Int), v = .tuple #[.bool r0, v_r1] ∧ ErrR S w' v_r1 r1 ∧ Bl w' g_k 103 [.int .i64 k_left2] ∧ K r0 r1 k_left2) := by
  unfold M_val_looker_lessT at H
  refine Fn.enter (by kernel_rfl) Tryd.func43 rfl Tryd.ntmps43 rfl ?_
  have hNoAt : AllP (NoAt w) [(some g_k)] := (apC (NoAt.bl hk rfl) apN)
  refine WC.seq ?_
  refine WC.region ?_
  refine WL.y rfl (Yld.pure tab_ok rfl) ?_
  refine WL.y rfl (Yld.pure tab_ok rfl) ?_
  refine WL.nil (WX.then_normal ?_)
  refine WC.seq ?_
  refine WC.seq ?_
  refine WC.region ?_
  refine WL.y rfl (Yld.pure tab_ok rfl) ?_
  refine WL.y rfl (Yld.pure tab_ok rfl) ?_
  refine WL.call rfl rfl (W_pval_looker_look hG (Nat.le_trans hB (Nat.le_refl _)) (apC (InP.toGe (InP.mem (List.Mem.head _)) hP hB) apN) hS7 hk H) ?_
  rintro v_err w1 ⟨hgl1, _, err, k_, rfl, herr, hB1, H⟩
  have gr1 : GrL [(some g_k)] w w1 := GrL.modL (GrL.refl _) hgl1 (apC (InP.mem (List.Mem.head _)) apN)
  refine WL.y rfl (Yld.pure tab_ok rfl) ?_
  refine WL.nil (WX.then_normal ?_)
  refine WC.seq ?_
  refine WC.region ?_
  refine WL.y rfl (Yld.pure tab_ok rfl) ?_
  refine WL.y rfl (Yld.errneq Tryd.underlying34 herr rfl) ?_
  refine WL.nil (WX.then_normal ?_)
  refine WC.cond rfl (fun b1 => ?_) (fun b1 => ?_)
  · replace H := H.1 (nd_true b1)
    refine WC.seq ?_
    refine WC.region ?_
    refine WL.y rfl (Yld.pure tab_ok rfl) ?_
    refine WL.y rfl (Yld.pure tab_ok rfl) ?_
    refine WL.y rfl (Yld.pure tab_ok rfl) ?_
    refine WL.nil (WX.then_normal ?_)
    refine WC.ret (WX.then_ret ?_)
    exact WX.ret2 rfl rfl rfl ⟨gr1, false, v_err, err, k_, rfl, herr, hB1, H⟩
  · replace H := H.2 (nd_false b1)
    refine WC.skip (WX.then_normal ?_)
    refine WC.seq ?_
    refine WC.seq ?_
    refine WC.region ?_
    refine WL.y rfl (Yld.pure tab_ok rfl) ?_
    obtain ⟨h1, H⟩ := H
    refine WL.kindV rfl (ha.goL gr1 hap0) h1 rfl (fun w2 hg1 => ?_)
    have gr2 := GrL.add0 gr1 hg1
    have k1 := hB1.g0 hg1
    refine WL.y rfl (Yld.pure tab_ok rfl) ?_
    obtain ⟨h2, H⟩ := H
    refine WL.kindV rfl (hb.goL gr2 hap1) h2 rfl (fun w3 hg2 => ?_)
    have gr3 := GrL.add0 gr2 hg2
    have k2 := k1.g0 hg2
    refine WL.y rfl (Yld.pure tab_ok rfl) ?_
    refine WL.nil (WX.then_normal ?_)
    refine WC.cond rfl (fun b2 => ?_) (fun b2 => ?_)
    · replace H := H.1 (nd_true b2)
      refine WC.seq ?_
      refine WC.quiet mixed (by kernel_rfl) ?_
      obtain ⟨vE1, _, hE1⟩ := GOK.get (hG.goL gr3 hP).ok 3 1 hS3 rfl rfl
      refine WQ.y rfl (Yld.cell tab_ok (ErrR.cell hE1 rfl) rfl rfl) ?_
      refine WQ.y rfl (Yld.pure tab_ok rfl) ?_
      refine WQ.y rfl (Yld.pure tab_ok rfl) ?_
      refine WQ.nil (WX.then_normal ?_)
      refine WC.ret (WX.then_ret ?_)
      exact WX.ret2 rfl rfl rfl ⟨gr3, false, vE1, (Er.e 3), k_, rfl, hE1, k2, H⟩
    · replace H := H.2 (nd_false b2)
      refine WC.skip (WX.then_normal ?_)
      refine WC.seq ?_
      refine WC.seq ?_
      refine WC.region ?_
      refine WL.y rfl (Yld.pure tab_ok rfl) ?_
      refine WL.nil (WX.then_normal ?_)
      refine WC.block ?_
      refine WC.seq ?_
      refine WC.region ?_
      refine WL.y rfl (assertNoV (z := .bool false) Tryd.underlying113 rfl (fun _ => by kernel_rfl) (ha.goL gr3 hap0) rfl (tyP_no rfl a)) ?_
      refine WL.y rfl (Yld.pure tab_ok rfl) ?_
      refine WL.y rfl (Yld.pure tab_ok rfl) ?_
      refine WL.nil (WX.then_normal ?_)
      refine WC.cond rfl (fun h => by cases h) (fun _ => ?_)
      refine WC.seq ?_
      refine WC.region ?_
      rcases PV.intCases a with ⟨z, he1⟩ | he1
      · replace H := H.1 z he1
        obtain ⟨a2, b_2, hv1, hN1, one1, one2, hL1⟩ := VR.intOut (ha.goL gr3 hap0) he1
        refine WL.y rfl (assertYesV Tryd.underlying116 rfl rfl hv1) ?_
        refine WL.y rfl (Yld.pure tab_ok rfl) ?_
        refine WL.y rfl (Yld.pure tab_ok rfl) ?_
        refine WL.nil (WX.then_normal ?_)
        refine WC.cond rfl (fun _ => ?_) (fun h => by cases h)
        refine WC.seq ?_
        refine WC.region ?_
        refine WL.alloc rfl zero116 (fun g1 w4 hB2 hg3 hl1 => ?_)
        have gr4 := GrL.add0 gr3 hg3
        have k3 := k2.g0 hg3
        have k4 := hN1.grown hg3
        refine WL.storeW (vs := [a2, b_2]) tab_ok rfl rfl rfl (all1c one1 (all1c one2 all1n)) hB2 rfl rfl (fun w5 hB3 hg4 => ?_)
        have gr5 : GrL [(some g_k)] w w5 := GrL.mod gr4 hg4 (InP.ge (Ge.le (Ge.box hl1) (GrL.sizeL gr3)))
        have k5 := k3.go hg4 (Dj.new k2.lt' (Ge.box hl1))
        have k6 := Nm.goV k4 hL1 (GrL.of1 hg4) (apC (DnD.one (ha.inp hap0 (InP.ge (Ge.le (Ge.box hl1) (GrL.sizeL gr3))))) apN)
        refine WL.nil (WX.then_normal ?_)
        refine WC.seq ?_
        obtain ⟨z2, he2, H⟩ := H
        obtain ⟨a3, b_3, hv2, hN2, one3, one4, hL2⟩ := VR.intOut (hb.goL gr5 hap1) he2
        refine WC.chainF (fun k => !(Nat.beq k 5)) (LD [1] (fun w' => Bl w' g1 116 [a2, b_2])) mixed (by kernel_rfl) (fun k w' h _ => (bl_eqv h hB3)) ?_
        refine WJ.y rfl rfl (fun w' hw' => Yld.fa0 (o := 0) (by kernel_rfl) rfl) ?_
        refine WJ.y rfl rfl (fun w' hw' => Yld.bagg (vs := [a2, b_2]) tab_ok (hw' rfl) rfl rfl rfl rfl) ?_
        refine WJ.y rfl rfl (fun w' hw' => Yld.pure tab_ok rfl) ?_
        refine WJ.y rfl rfl (fun w' hw' => assertOneV Tryd.underlying116 rfl rfl hv2) ?_
        refine WJ.y rfl rfl (fun w' hw' => Yld.fld flds_ok rfl rfl rfl) ?_
        refine WJ.call rfl (wants_none) rfl rfl (W_num_Num_Cmp k6 hN2 H) (fun v w' h w2 e => DD.keep (Bl.g0 hB3 (gr_eqv h.1 e))) ?_
        rintro _ w6 ⟨hg5, t46, rfl, H⟩
        have gr6 := GrL.add0 gr5 hg5
        have k7 := k5.g0 hg5
        have k8 := hB3.g0 hg5
        refine WJ.y rfl rfl (fun w' hw' => Yld.pure tab_ok rfl) ?_
        refine WJ.y rfl rfl (fun w' hw' => Yld.pure tab_ok rfl) ?_
        refine WJ.y rfl rfl (fun w' hw' => Yld.pure tab_ok rfl) ?_
        refine WJ.nil (WX.then_normal ?_)
        refine WC.ret (WX.block_ret (WX.then_ret ?_))
        exact WX.ret2 rfl rfl rfl ⟨gr6, decide (t46 < (0 : Int)), .nilIface, Er.ok, k_, rfl, (ErrR.okR (S := S) (w := w6)), k7, H⟩
      · replace H := H.2 he1
        refine WL.y rfl (assertNoV (z := .agg ⟨[.bool false, .slice none 0 0]⟩) Tryd.underlying116 rfl (fun _ => by kernel_rfl) (ha.goL gr3 hap0) rfl (tyP_int he1)) ?_
        refine WL.y rfl (Yld.pure tab_ok rfl) ?_
        refine WL.y rfl (Yld.pure tab_ok rfl) ?_
        refine WL.nil (WX.then_normal ?_)
        refine WC.cond rfl (fun h => by cases h) (fun _ => ?_)
        refine WC.seq ?_
        refine WC.region ?_
        refine WL.y rfl (assertNoV (z := vs ([] : List UInt8)) Tryd.underlying117 rfl (fun _ => by kernel_rfl) (ha.goL gr3 hap0) rfl (tyP_no rfl a)) ?_
        refine WL.y rfl (Yld.pure tab_ok rfl) ?_
        refine WL.y rfl (Yld.pure tab_ok rfl) ?_
        refine WL.nil (WX.then_normal ?_)
        refine WC.cond rfl (fun h => by cases h) (fun _ => ?_)
        refine WC.seq ?_
        refine WC.region ?_
        rcases PV.empCases a with he3 | he3
        · replace H := H.1 he3
          obtain ⟨g_l, A_l, c_l, hv3, hB4, hR1, hr1, hd1⟩ := VR.empOut (ha.goL gr3 hap0) he3
          refine WL.y rfl (assertYesV Tryd.underlying85 rfl rfl hv3) ?_
          refine WL.y rfl (Yld.pure tab_ok rfl) ?_
          refine WL.y rfl (Yld.pure tab_ok rfl) ?_
          refine WL.nil (WX.then_normal ?_)
          refine WC.cond rfl (fun _ => ?_) (fun h => by cases h)
          refine WC.seq ?_
          refine WC.region ?_
          refine WL.y rfl (Yld.pure tab_ok rfl) ?_
          refine WL.nil (WX.then_normal ?_)
          refine WC.seq ?_
          refine WC.chainF (fun k => !(Nat.beq k 11)) (LD [4, 9] (fun w' => Bl w' g_l 128 [.slice A_l ((([] : List PV)).length) c_l, .bool false, .int .i64 (0 : Int)])) mixed (by kernel_rfl) (fun k w' h _ => (bl_eqv h hB4)) ?_
          refine WJ.y rfl rfl (fun w' hw' => Yld.pure tab_ok rfl) ?_
          refine WJ.y rfl rfl (fun w' hw' => Yld.pure tab_ok rfl) ?_
          refine WJ.y rfl rfl (fun w' hw' => Yld.pure tab_ok rfl) ?_
          refine WJ.y rfl rfl (fun w' hw' => Yld.fa0 (o := 0) (by kernel_rfl) rfl) ?_
          refine WJ.y rfl rfl (fun w' hw' => Yld.bload tab_ok (hw' rfl) rfl rfl rfl) ?_
          refine WJ.y rfl rfl (fun w' hw' => Yld.pure tab_ok rfl) ?_
          exact H.elim
        · replace H := H.2 he3
          refine WL.y rfl (assertNoV (z := .pointer none) Tryd.underlying85 rfl (fun _ => by kernel_rfl) (ha.goL gr3 hap0) rfl (tyP_emp he3)) ?_
          refine WL.y rfl (Yld.pure tab_ok rfl) ?_
          refine WL.y rfl (Yld.pure tab_ok rfl) ?_
          refine WL.nil (WX.then_normal ?_)
          refine WC.cond rfl (fun h => by cases h) (fun _ => ?_)
          refine WC.seq ?_
          refine WC.region ?_
          rcases PV.tupCases a with ⟨l, he4⟩ | he4
          · replace H := H.1 l he4
            obtain ⟨g_t, A_t, c_t, hs_t, hv4, hB5, hR2, hr2, hd2, hd3, hd4⟩ := VR.tupOut (ha.goL gr3 hap0) he4
            refine WL.y rfl (assertYesV Tryd.underlying92 rfl rfl hv4) ?_
            refine WL.y rfl (Yld.pure tab_ok rfl) ?_
            refine WL.y rfl (Yld.pure tab_ok rfl) ?_
            refine WL.nil (WX.then_normal ?_)
            refine WC.cond rfl (fun _ => ?_) (fun h => by cases h)
            refine WC.seq ?_
            refine WC.region ?_
            refine WL.y rfl (Yld.pure tab_ok rfl) ?_
            refine WL.nil (WX.then_normal ?_)
            refine WC.seq ?_
            obtain ⟨l2, he5, H⟩ := H
            obtain ⟨g_t2, A_t2, c_t2, hs_t2, hv5, hB6, hR3, hr3, hd5, hd6, hd7⟩ := VR.tupOut (hb.goL gr3 hap1) he5
            refine WC.chainF (fun k => !(Nat.beq k 11)) (LD [4, 9] (fun w' => Bl w' g_t 95 [.slice A_t ((l.map PV.int).length) c_t] ∧ Bl w' g_t2 95 [.slice A_t2 ((l2.map PV.int).length) c_t2])) mixed (by kernel_rfl) (fun k w' h _ => ⟨(bl_eqv h hB5), (bl_eqv h hB6)⟩) ?_
            refine WJ.y rfl rfl (fun w' hw' => Yld.pure tab_ok rfl) ?_
            refine WJ.y rfl rfl (fun w' hw' => Yld.pure tab_ok rfl) ?_
            refine WJ.y rfl rfl (fun w' hw' => Yld.pure tab_ok rfl) ?_
            refine WJ.y rfl rfl (fun w' hw' => Yld.fa0 (o := 0) (by kernel_rfl) rfl) ?_
            refine WJ.y rfl rfl (fun w' hw' => Yld.bload tab_ok (hw' rfl).1 rfl rfl rfl) ?_
            refine WJ.y rfl rfl (fun w' hw' => Yld.pure tab_ok rfl) ?_
            refine WJ.y rfl rfl (fun w' hw' => assertOneV Tryd.underlying92 rfl rfl hv5) ?_
            refine WJ.y rfl rfl (fun w' hw' => Yld.pure tab_ok rfl) ?_
            refine WJ.y rfl rfl (fun w' hw' => Yld.fa0 (o := 0) (by kernel_rfl) rfl) ?_
            refine WJ.y rfl rfl (fun w' hw' => Yld.bload tab_ok (hw' rfl).2 rfl rfl rfl) ?_
            refine WJ.y rfl rfl (fun w' hw' => Yld.pure tab_ok rfl) ?_
            refine WJ.call rfl wants_none rfl rfl (W_pval_looker_first (hG.goL gr3 hP) (Nat.le_trans hB (GrL.sizeL gr3)) (apC (InP.toGe (InP.mem (List.Mem.head _)) hP hB) apN) hS3 hS7 k2 hR2 rfl hr2 hR3 rfl hr3 (apC (hd3 _ (ha.inp hap0 (InP.mem (List.Mem.head _)))) apN) (apC (hd4 _ (ha.inp hap0 (InP.mem (List.Mem.head _)))) apN) (apC (hd6 _ (hb.inp hap1 (InP.mem (List.Mem.head _)))) apN) (apC (hd7 _ (hb.inp hap1 (InP.mem (List.Mem.head _)))) apN) H) (fun v w' h w2 e => DD.past (by kernel_rfl)) ?_
            rintro _ w7 ⟨hgl2, t860, v_t861, t861, k_2, rfl, ht861, hB7, H⟩
            have gr7 : GrL [(some g_k)] w w7 := GrL.modL gr3 hgl2 (apC (InP.mem (List.Mem.head _)) apN)
            have k9 := hB5.goL hgl2 (apC (hd2 _ (ha.inp hap0 (InP.mem (List.Mem.head _)))) apN)
            have k10 := hB6.goL hgl2 (apC (hd5 _ (hb.inp hap1 (InP.mem (List.Mem.head _)))) apN)
            refine WJ.y rfl rfl (fun w' hw' => Yld.pure tab_ok rfl) ?_
            refine WJ.y rfl rfl (fun w' hw' => Yld.pure tab_ok rfl) ?_
            refine WJ.y rfl rfl (fun w' hw' => Yld.pure tab_ok rfl) ?_
            refine WJ.y rfl rfl (fun w' hw' => Yld.pure tab_ok rfl) ?_
            refine WJ.nil (WX.then_normal ?_)
            refine WC.ret (WX.block_ret (WX.then_ret ?_))
            exact WX.ret2 rfl rfl rfl ⟨gr7, t860, v_t861, t861, k_2, rfl, ht861, hB7, H⟩
          · replace H := H.2 he4
            refine WL.y rfl (assertNoV (z := .pointer none) Tryd.underlying92 rfl (fun _ => by kernel_rfl) (ha.goL gr3 hap0) rfl (tyP_tup he4)) ?_
            refine WL.y rfl (Yld.pure tab_ok rfl) ?_
            refine WL.y rfl (Yld.pure tab_ok rfl) ?_
            refine WL.nil (WX.then_normal ?_)
            refine WC.cond rfl (fun h => by cases h) (fun _ => ?_)
            refine WC.skip (WX.block_normal (WX.then_normal ?_))
            refine WC.seq ?_
            refine WC.quiet mixed (by kernel_rfl) ?_
            obtain ⟨vE2, _, hE2⟩ := GOK.get (hG.goL gr3 hP).ok 3 1 hS3 rfl rfl
            refine WQ.y rfl (Yld.cell tab_ok (ErrR.cell hE2 rfl) rfl rfl) ?_
            refine WQ.y rfl (Yld.pure tab_ok rfl) ?_
            refine WQ.y rfl (Yld.pure tab_ok rfl) ?_
            refine WQ.nil (WX.then_normal ?_)
            refine WC.ret ?_
            exact WX.ret2 rfl rfl rfl ⟨gr3, false, vE2, (Er.e 3), k_, rfl, hE2, k2, H⟩

set_option maxHeartbeats 8000000 in
theorem W_val_Less {S : List Nat} {w : World} {v_a : OV} {F_a : Nat → Prop} {a : PV} {v_b : OV} {F_b : Nat → Prop} {b : PV} {K : Bool → Er → Prop} (hG : GOK S w) (hS3 : 3 ∈ S) (hS7 : 7 ∈ S) (ha : RelD deV w [(v_a, F_a)] [a]) (hb : RelD deV w [(v_b, F_b)] [b]) (H : M_val_Less a b K) : Fn Tryd.prog 21 ⟨[v_a.1, v_b.1]⟩ w (fun v w' => w.grownBy w' none ∧ ∃ (r0 : Bool), ∃ (v_r1 : Value), ∃ (r1 : Er), v = .tuple #[.bool r0, v_r1] ∧ ErrR S w' v_r1 r1 ∧ K r0 r1) := by
  unfold M_val_Less at H
  refine Fn.enter (by kernel_rfl) Tryd.func21 rfl Tryd.ntmps21 rfl ?_
  refine WC.seq ?_
  refine WC.region ?_
  refine WL.y rfl (Yld.pure tab_ok rfl) ?_
  refine WL.y rfl (Yld.pure tab_ok rfl) ?_
  refine WL.nil (WX.then_normal ?_)
  refine WC.seq ?_
  refine WC.region ?_
  refine WL.y rfl (Yld.struct (us := [.int .i64 (4096 : Int)]) zero103 places103 rfl rfl) ?_
  refine WL.box (us := [.int .i64 (4096 : Int)]) rfl rfl rfl (fun g1 w1 hB1 hg1 hl1 => ?_)
  have gr1 := hg1
  refine WL.y rfl (Yld.pure tab_ok rfl) ?_
  refine WL.nil (WX.then_normal ?_)
  refine WC.seq ?_
  refine WC.region ?_
  refine WL.y rfl (Yld.pure tab_ok rfl) ?_
  refine WL.y rfl (Yld.pure tab_ok rfl) ?_
  refine WL.y rfl (Yld.pure tab_ok rfl) ?_
  refine WL.call rfl rfl (W_val_looker_lessT (GB.grown hG gr1) (size_le gr1) (apC (Ge.le (Ge.box hl1) (Nat.le_refl _)) apN) hS3 hS7 hB1 (ha.grown gr1) (hb.grown gr1) (apC (ha.new (Ge.le (Ge.box hl1) (Nat.le_refl _))) apN) (apC (hb.new (Ge.le (Ge.box hl1) (Nat.le_refl _))) apN) H) ?_
  rintro _ w2 ⟨hgl1, t120, v_t121, t121, t8_, rfl, ht121, hB2, H⟩
  have gr2 := gr_modL gr1 hgl1 (apC (Ge.le (Ge.box hl1) (Nat.le_refl _)) apN)
  refine WL.y rfl (Yld.pure tab_ok rfl) ?_
  refine WL.y rfl (Yld.pure tab_ok rfl) ?_
  refine WL.y rfl (Yld.pure tab_ok rfl) ?_
  refine WL.y rfl (Yld.pure tab_ok rfl) ?_
  refine WL.nil (WX.then_normal ?_)
  refine WC.ret ?_
  exact WX.ret2 rfl rfl rfl ⟨gr2, t120, v_t121, t121, rfl, ht121, H⟩

end Go.Proofs.YtjoepdjeekadcaaDoor

 /- Printed by a program (wip/vg): what the functions mean, plainly, and their walks. -/
namespace Go.Proofs.YtjoepdjeekadcaaDoor
open Go Go.RowKit
attribute [local irreducible] WL WC WX WQ WK WJ Yld Eff Ef0 Fn
def M_list_Sorted_1 (a : PV) (b : PV) (cap0 : Bool) (cap1 : Bool) (K : Int → Prop) : Prop :=
 ∃ J1 : PV → PV → Prop, (((cap0 = true → J1 b a) ∧
 (cap0 = false → J1 a b))) ∧
 (∀ a2 : PV, ∀ b_2 : PV, J1 a2 b_2 → M_val_Less a2 b_2 (fun (t170 : Bool) (t171 : Er) =>
 M_val_Less b_2 a2 (fun (t230 : Bool) (t231 : Er) =>
 ((((!decide (t171 = Er.ok)) || (!decide (t231 = Er.ok))) = true → False) ∧
 (((!decide (t171 = Er.ok)) || (!decide (t231 = Er.ok))) = false → ((t170 = true → K (-1 : Int)) ∧
 (t170 = false → ((t230 = true → K (1 : Int)) ∧
 (t230 = false → K (0 : Int))))))))))

set_option maxHeartbeats 8000000 in
theorem W_list_Sorted_1 {S : List Nat} {w : World} {v_a : OV} {F_a : Nat → Prop} {a : PV} {v_b : OV} {F_b : Nat → Prop} {b : PV} {g_cap0 : Nat} {cap0 : Bool} {g_cap1 : Nat} {cap1 : Bool} {K : Int → Prop} (hG : GOK S w) (hS3 : 3 ∈ S) (hS7 : 7 ∈ S) (ha : RelD deV w [(v_a, F_a)] [a]) (hb : RelD deV w [(v_b, F_b)] [b]) (hcap0 : Bl w g_cap0 4 [.bool cap0]) (hcap1 : Bl w g_cap1 4 [.bool cap1]) (H : M_list_Sorted_1 a b cap0 cap1 K) : Fn Tryd.prog 39 ⟨[v_a.1, v_b.1, .pointer (some ⟨g_cap0, 0, none⟩), .pointer (some ⟨g_cap1, 0, none⟩)]⟩ w (fun v w' => w.grownBy w' none ∧ ∃ (r : Int), v = .int .i64 r ∧ K r) := by
  unfold M_list_Sorted_1 at H
  refine Fn.enter (by kernel_rfl) Tryd.func39 rfl Tryd.ntmps39 rfl ?_
  refine WC.seq ?_
  refine WC.region ?_
  refine WL.y rfl (Yld.pure tab_ok rfl) ?_
  refine WL.nil (WX.then_normal ?_)
  refine WC.seq ?_
  obtain ⟨J1, H, hJ1⟩ := H
  refine WC.midF (fun L' w' => ∃ (v_a2 : OV), ∃ (F_a2 : Nat → Prop), ∃ (a2 : PV), ∃ (v_b2 : OV), ∃ (F_b2 : Nat → Prop), ∃ (b_2 : PV), L' = [(0, v_a2.1), (1, v_b2.1), (3, .pointer (some ⟨g_cap1, 0, none⟩))] ∧ J1 a2 b_2 ∧ w = w' ∧ RelD deV w' [(v_a2, F_a2)] [a2] ∧ RelD deV w' [(v_b2, F_b2)] [b_2] ∧ OrD (fun p => DnD deV [(v_a, F_a)] [a] p ∧ DnD deV [(v_b, F_b)] [b] p) deV [(v_a2, F_a2)] [a2] w.heap.size ∧ OrD (fun p => DnD deV [(v_a, F_a)] [a] p ∧ DnD deV [(v_b, F_b)] [b] p) deV [(v_b2, F_b2)] [b_2] w.heap.size) ?_ (fun hQ => ?_)
  · clear H
    rintro _ _ ⟨v_a2, F_a2, a2, v_b2, F_b2, b_2, rfl, H, rfl, k1, k2, or1, or2⟩
    replace H := hJ1 a2 b_2 H
    refine WX.then_normal ?_
    refine WC.seq ?_
    refine WC.region ?_
    refine WL.y rfl (Yld.pure tab_ok rfl) ?_
    refine WL.y rfl (Yld.pure tab_ok rfl) ?_
    refine WL.call rfl rfl (W_val_Less hG hS3 hS7 k1 k2 H) ?_
    rintro _ w1 ⟨hg1, t170, v_t171, t171, rfl, ht171, H⟩
    have gr1 := hg1
    have k3 := k1.grown hg1
    have k4 := k2.grown hg1
    refine WL.y rfl (Yld.pure tab_ok rfl) ?_
    refine WL.y rfl (Yld.pure tab_ok rfl) ?_
    refine WL.y rfl (Yld.pure tab_ok rfl) ?_
    refine WL.y rfl (Yld.pure tab_ok rfl) ?_
    refine WL.y rfl (Yld.pure tab_ok rfl) ?_
    refine WL.nil (WX.then_normal ?_)
    refine WC.seq ?_
    refine WC.region ?_
    refine WL.y rfl (Yld.pure tab_ok rfl) ?_
    refine WL.y rfl (Yld.pure tab_ok rfl) ?_
    refine WL.call rfl rfl (W_val_Less (hG.grown gr1) hS3 hS7 k4 k3 H) ?_
    rintro _ w2 ⟨hg2, t230, v_t231, t231, rfl, ht231, H⟩
    have gr2 := gr_trans gr1 hg2
    have k5 := ht171.grown hg2
    refine WL.y rfl (Yld.pure tab_ok rfl) ?_
    refine WL.y rfl (Yld.pure tab_ok rfl) ?_
    refine WL.y rfl (Yld.pure tab_ok rfl) ?_
    refine WL.y rfl (Yld.pure tab_ok rfl) ?_
    refine WL.y rfl (Yld.pure tab_ok rfl) ?_
    refine WL.nil (WX.then_normal ?_)
    refine WC.seq ?_
    refine WC.seq ?_
    refine WC.region ?_
    refine WL.y rfl (Yld.pure tab_ok rfl) ?_
    refine WL.y rfl (Yld.errneq Tryd.underlying34 k5 rfl) ?_
    refine WL.y rfl (Yld.pure tab_ok rfl) ?_
    refine WL.midF 3 (fun L' w' => ∃ q1 : Bool, L' = [(31, .bool q1), (3, .pointer (some ⟨g_cap1, 0, none⟩)), (7, .bool t170), (9, .bool t230)] ∧ ((!decide (t171 = Er.ok)) || (!decide (t231 = Er.ok))) = q1 ∧ w2 = w') ?_ (fun hQ => ?_)
    · rintro _ _ ⟨q1, rfl, rfl, rfl⟩
      refine WL.nil (WX.then_normal ?_)
      refine WC.cond rfl (fun b1 => ?_) (fun b1 => ?_)
      · replace H := H.1 (b1)
        refine WC.seq ?_
        exact False.elim H
      · replace H := H.2 (b1)
        refine WC.skip (WX.then_normal ?_)
        refine WC.seq ?_
        refine WC.block ?_
        refine WC.seq ?_
        refine WC.region ?_
        refine WL.y rfl (Yld.pure tab_ok rfl) ?_
        refine WL.y rfl (Yld.pure tab_ok rfl) ?_
        refine WL.nil (WX.then_normal ?_)
        refine WC.cond rfl (fun b2 => ?_) (fun b2 => ?_)
        · replace H := H.1 (b2)
          refine WC.seq ?_
          refine WC.region ?_
          refine WL.y rfl (Yld.pure tab_ok rfl) ?_
          refine WL.nil (WX.then_normal ?_)
          refine WC.ret (WX.block_ret (WX.then_ret ?_))
          exact WX.ret1 rfl rfl ⟨gr2, (-1 : Int), rfl, H⟩
        · replace H := H.2 (b2)
          refine WC.seq ?_
          refine WC.region ?_
          refine WL.y rfl (Yld.pure tab_ok rfl) ?_
          refine WL.y rfl (Yld.pure tab_ok rfl) ?_
          refine WL.nil (WX.then_normal ?_)
          refine WC.cond rfl (fun b3 => ?_) (fun b3 => ?_)
          · replace H := H.1 (b3)
            refine WC.seq ?_
            refine WC.region ?_
            refine WL.y rfl (Yld.pure tab_ok rfl) ?_
            refine WL.nil (WX.then_normal ?_)
            refine WC.ret (WX.block_ret (WX.then_ret ?_))
            exact WX.ret1 rfl rfl ⟨gr2, (1 : Int), rfl, H⟩
          · replace H := H.2 (b3)
            refine WC.skip (WX.block_normal (WX.then_normal ?_))
            refine WC.seq ?_
            refine WC.region ?_
            refine WL.y rfl (Yld.pure tab_ok rfl) ?_
            refine WL.nil (WX.then_normal ?_)
            refine WC.ret ?_
            exact WX.ret1 rfl rfl ⟨gr2, (0 : Int), rfl, H⟩
    · clear H
      rcases Bool.eq_false_or_eq_true (!decide (t171 = Er.ok)) with b4 | b4
      · refine WL.gno rfl rfl (okb b4) rfl ?_
        refine WL.gno rfl rfl (okb b4) rfl ?_
        refine WL.y rfl (Yld.pickT (okb b4) rfl) ?_
        exact WL.weaken (by repeat (first | exact Sub.nil | refine Sub.cons rfl ?_)) (hQ _ _ ⟨true, rfl, by rw [b4] <;> rfl, rfl⟩)
      · refine WL.gyes rfl rfl (okb b4) rfl (Yld.pure tab_ok rfl) ?_
        refine WL.gyes rfl rfl (okb b4) rfl (Yld.errneq Tryd.underlying34 ht231 rfl) ?_
        refine WL.y rfl (Yld.pickF (okb b4) rfl) ?_
        exact WL.weaken (by repeat (first | exact Sub.nil | refine Sub.cons rfl ?_)) (hQ _ _ ⟨!decide (t231 = Er.ok), rfl, by rw [b4] <;> rfl, rfl⟩)
  · clear hJ1
    refine WC.seq ?_
    refine WC.region ?_
    refine WL.y rfl (Yld.bload tab_ok hcap0 rfl rfl rfl) ?_
    refine WL.nil (WX.then_normal ?_)
    refine WC.cond rfl (fun b5 => ?_) (fun b5 => ?_)
    · replace H := H.1 (b5)
      refine WC.region ?_
      refine WL.y rfl (Yld.pure tab_ok rfl) ?_
      refine WL.y rfl (Yld.pure tab_ok rfl) ?_
      refine WL.y rfl (Yld.pure tab_ok rfl) ?_
      refine WL.y rfl (Yld.pure tab_ok rfl) ?_
      refine WL.nil ?_
      exact WX.weaken (by repeat (first | exact Sub.nil | refine Sub.cons rfl ?_)) (hQ _ _ ⟨v_b, F_b, b, v_a, F_a, a, rfl, H, rfl, hb, ha, (fun p_ hp_ q_ => q_.2), (fun p_ hp_ q_ => q_.1)⟩)
    · replace H := H.2 (b5)
      refine WC.skip ?_
      exact WX.weaken (by repeat (first | exact Sub.nil | refine Sub.cons rfl ?_)) (hQ _ _ ⟨v_a, F_a, a, v_b, F_b, b, rfl, H, rfl, ha, hb, (fun p_ hp_ q_ => q_.1), (fun p_ hp_ q_ => q_.2)⟩)

end Go.Proofs.YtjoepdjeekadcaaDoor

 /- Printed by a program (wip/vg): what the functions mean, plainly, and their walks. -/
namespace Go.Proofs.YtjoepdjeekadcaaDoor
open Go Go.RowKit
attribute [local irreducible] WL WC WX WQ WK WJ Yld Eff Ef0 Fn
def M_pval_printer_full (p_b : List UInt8) (K : Bool → Prop) : Prop :=
 (p_b.length ≤ maxLen →
 K (decide ((65536 : Int) ≤ (p_b.length : Int))))

def M_pval_printer_put (p_b : List UInt8) (l : List (List UInt8)) (K : (List UInt8) → Prop) : Prop :=
 (p_b.length ≤ maxLen →
 (l.length ≤ maxLen →
 Lp2 (fun (t8 : Int) (p0 : List UInt8) kont1 => ((t8 < (l.length : Int) → (0 ≤ t8 ∧ t8 < (l.length : Nat)) ∧
 (In .i64 ((65536 : Int) - (p0.length : Int))) ∧
 (0 ≤ (if ((65536 : Int) - (p0.length : Int)) < ((l.getD t8.toNat []).length : Int) then (65536 : Int) - (p0.length : Int) else ((l.getD t8.toNat []).length : Int)) ∧ (if ((65536 : Int) - (p0.length : Int)) < ((l.getD t8.toNat []).length : Int) then (65536 : Int) - (p0.length : Int) else ((l.getD t8.toNat []).length : Int)) ≤ (l.getD t8.toNat []).length) ∧
 ((p0.length + ((l.getD t8.toNat []).take (if ((65536 : Int) - (p0.length : Int)) < ((l.getD t8.toNat []).length : Int) then (65536 : Int) - (p0.length : Int) else ((l.getD t8.toNat []).length : Int)).toNat).length) * 1 ≤ 140737488355328) ∧
 (In .i64 (t8 + (1 : Int))) ∧
 kont1 (t8 + (1 : Int)) (p0 ++ ((l.getD t8.toNat []).take (if ((65536 : Int) - (p0.length : Int)) < ((l.getD t8.toNat []).length : Int) then (65536 : Int) - (p0.length : Int) else ((l.getD t8.toNat []).length : Int)).toNat))) ∧
 (¬ (t8 < (l.length : Int)) → K p0))) (0 : Int) p_b))

def M_pval_printer_repr (p_b : List UInt8) (v_ : PV) (deep : Int) (K : (List UInt8) → Prop) : Prop :=
 (p_b.length ≤ maxLen →
 M_pval_printer_full p_b (fun (t17 : Bool) =>
 ((t17 = true → K p_b) ∧
 (t17 = false → (v_ ≠ PV.none) ∧
 ((∀ z : Int, v_ = PV.int z → M_num_Num_Text z 3 (fun (t41 : List UInt8) =>
 M_pval_printer_put p_b ([t41] : List (List UInt8)) (fun (p_ : List UInt8) =>
 K p_))) ∧
 ((∀ z, v_ ≠ PV.int z) → False))))))

def M_pval_printer_items (p_b : List UInt8) (l : List PV) (deep : Int) (K : (List UInt8) → Prop) : Prop :=
 (p_b.length ≤ maxLen →
 (l.length ≤ maxLen →
 Lp2 (fun (t10 : Int) (p0 : List UInt8) kont1 => ((t10 < (l.length : Int) → (0 ≤ t10 ∧ t10 < (l.length : Nat)) ∧
 M_pval_printer_full p0 (fun (t16 : Bool) =>
 ((t16 = true → K p0) ∧
 (t16 = false → ∃ J1 : (List UInt8) → Prop, ((((0 : Int) < t10 → M_pval_printer_put p0 ([([44, 32] : List UInt8)] : List (List UInt8)) (fun (p_2 : List UInt8) =>
 J1 p_2)) ∧
 (¬ ((0 : Int) < t10) → J1 p0))) ∧
 (∀ p02 : List UInt8, J1 p02 → M_pval_printer_repr p02 (l.getD t10.toNat PV.nil) deep (fun (p_ : List UInt8) =>
 (In .i64 (t10 + (1 : Int))) ∧
 kont1 (t10 + (1 : Int)) p_)))))) ∧
 (¬ (t10 < (l.length : Int)) → K p0))) (0 : Int) p_b))

def M_pval_printer_parts (p_b : List UInt8) (v_ : PV) (deep : Int) (K : (List UInt8) → Prop) : Prop :=
 (p_b.length ≤ maxLen →
 (((60 : Int) ≤ deep → M_pval_printer_put p_b ([([46, 46, 46] : List UInt8)] : List (List UInt8)) (fun (p_ : List UInt8) =>
 K p_)) ∧
 (¬ ((60 : Int) ≤ deep) → ((v_ = PV.emp → M_pval_printer_put p_b ([([91] : List UInt8)] : List (List UInt8)) (fun (p_2 : List UInt8) =>
 (In .i64 (deep + (1 : Int))) ∧
 M_pval_printer_items p_2 ([] : List PV) (deep + (1 : Int)) (fun (p_3 : List UInt8) =>
 M_pval_printer_put p_3 ([([93] : List UInt8)] : List (List UInt8)) (fun (p_4 : List UInt8) =>
 K p_4)))) ∧
 (v_ ≠ PV.emp → ((∀ l : List Int, v_ = PV.tup l → M_pval_printer_put p_b ([([40] : List UInt8)] : List (List UInt8)) (fun (p_5 : List UInt8) =>
 (In .i64 (deep + (1 : Int))) ∧
 M_pval_printer_items p_5 (l.map PV.int) (deep + (1 : Int)) (fun (p_6 : List UInt8) =>
 ∃ J1 : (List UInt8) → Prop, (((((l.map PV.int).length : Int) = (1 : Int) → M_pval_printer_put p_6 ([([44] : List UInt8)] : List (List UInt8)) (fun (p_8 : List UInt8) =>
 J1 p_8)) ∧
 (¬ (((l.map PV.int).length : Int) = (1 : Int)) → J1 p_6))) ∧
 (∀ p0 : List UInt8, J1 p0 → M_pval_printer_put p0 ([([41] : List UInt8)] : List (List UInt8)) (fun (p_7 : List UInt8) =>
 K p_7))))) ∧
 ((∀ l, v_ ≠ PV.tup l) → K p_b)))))))

def M_val_printer_reprT (p_b : List UInt8) (v_ : PV) (deep : Int) (K : (List UInt8) → Prop) : Prop :=
 (p_b.length ≤ maxLen →
 M_pval_printer_full p_b (fun (t17 : Bool) =>
 ((t17 = true → K p_b) ∧
 (t17 = false → (v_ ≠ PV.none) ∧
 ((∀ z : Int, v_ = PV.int z → M_num_Num_Text z 3 (fun (t41 : List UInt8) =>
 M_pval_printer_put p_b ([t41] : List (List UInt8)) (fun (p_ : List UInt8) =>
 K p_))) ∧
 ((∀ z, v_ ≠ PV.int z) → M_pval_printer_parts p_b v_ deep (fun (p_2 : List UInt8) =>
 K p_2)))))))

def M_val_Repr (v_ : PV) (K : (List UInt8) → Prop) : Prop :=
 M_val_printer_reprT [] v_ (0 : Int) (fun (t5_ : List UInt8) =>
 K t5_)

def M_val_weight (v_ : PV) (most : Int) (K : Int → Prop) : Prop :=
 ∃ J1 : (List PV) → Prop, (((v_ = PV.emp → J1 ([] : List PV)) ∧
 (v_ ≠ PV.emp → ((∀ l2 : List Int, v_ = PV.tup l2 → J1 (l2.map PV.int)) ∧
 ((∀ l, v_ ≠ PV.tup l) → J1 []))))) ∧
 (∀ l : List PV, J1 l → Lp2 (fun (n : Int) (t63 : Int) kont1 => ((t63 < (l.length : Int) → (0 ≤ t63 ∧ t63 < (l.length : Nat)) ∧
 ((most < n → K n) ∧
 (¬ (most < n) → (In .i64 (most - n)) ∧
 False))) ∧
 (¬ (t63 < (l.length : Int)) → K n))) (1 : Int) (0 : Int))

def M_val_weightT (v_ : PV) (most : Int) (K : Int → Prop) : Prop :=
 ∃ J1 : (List PV) → Prop, (((v_ = PV.emp → J1 ([] : List PV)) ∧
 (v_ ≠ PV.emp → ((∀ l2 : List Int, v_ = PV.tup l2 → J1 (l2.map PV.int)) ∧
 ((∀ l, v_ ≠ PV.tup l) → J1 []))))) ∧
 (∀ l : List PV, J1 l → Lp2 (fun (n : Int) (t63 : Int) kont1 => ((t63 < (l.length : Int) → (0 ≤ t63 ∧ t63 < (l.length : Nat)) ∧
 ((most < n → K n) ∧
 (¬ (most < n) → (In .i64 (most - n)) ∧
 M_val_weight (l.getD t63.toNat PV.nil) (most - n) (fun (t76 : Int) =>
 (In .i64 (n + t76)) ∧
 (In .i64 (t63 + (1 : Int))) ∧
 kont1 (n + t76) (t63 + (1 : Int)))))) ∧
 (¬ (t63 < (l.length : Int)) → K n))) (1 : Int) (0 : Int))

def M_val_Light (most : Int) (l : List PV) (K : Bool → Prop) : Prop :=
 (l.length ≤ maxLen →
 Lp2 (fun (most2 : Int) (t9 : Int) kont1 => ((t9 < (l.length : Int) → (0 ≤ t9 ∧ t9 < (l.length : Nat)) ∧
 M_val_weightT (l.getD t9.toNat PV.nil) most2 (fun (t16 : Int) =>
 (In .i64 (most2 - t16)) ∧
 (((most2 - t16) < (0 : Int) → K false) ∧
 (¬ ((most2 - t16) < (0 : Int)) → (In .i64 (t9 + (1 : Int))) ∧
 kont1 (most2 - t16) (t9 + (1 : Int)))))) ∧
 (¬ (t9 < (l.length : Int)) → K true))) most (0 : Int))

def M_slices_Clone_val_Value_val_Value (s : List PV) (K : (List PV) → Prop) : Prop :=
 (s.length ≤ maxLen →
 ((s = [] → K []) ∧
 ((((([] : List PV)).length + s.length) * 16 ≤ 140737488355328) ∧
 K (([] : List PV) ++ s))))

set_option maxHeartbeats 8000000 in
theorem W_pval_printer_full {w : World} {g_p : Nat} {p_b : List UInt8} {A_p_b : Option Addr} {c_p_b : Nat} {n_p_b : Nat} {K : Bool → Prop} (hp_b : Rd vb w A_p_b c_p_b p_b) (hn_p_b : n_p_b = p_b.length) (hp : Bl w g_p 79 [.slice A_p_b n_p_b c_p_b]) (H : M_pval_printer_full p_b K) : Fn Tryd.prog 48 ⟨[.pointer (some ⟨g_p, 0, none⟩)]⟩ w (fun v w' => w = w' ∧ ∃ (r : Bool), v = .bool r ∧ K r) := by
  subst hn_p_b
  unfold M_pval_printer_full at H
  refine Fn.enter (by kernel_rfl) Tryd.func48 rfl Tryd.ntmps48 rfl ?_
  replace H := H (Nat.le_trans hp_b.cap hp_b.max)
  refine WC.seq ?_
  refine WC.region ?_
  refine WL.y rfl (Yld.pure tab_ok rfl) ?_
  refine WL.nil (WX.then_normal ?_)
  refine WC.seq ?_
  refine WC.region ?_
  refine WL.y rfl (Yld.pure tab_ok rfl) ?_
  refine WL.y rfl (Yld.pure tab_ok rfl) ?_
  refine WL.y rfl (Yld.pure tab_ok rfl) ?_
  refine WL.y rfl (Yld.bload tab_ok hp rfl rfl rfl) ?_
  refine WL.y rfl (Yld.pure tab_ok rfl) ?_
  refine WL.y rfl (Yld.pure tab_ok rfl) ?_
  refine WL.y rfl (Yld.pure tab_ok rfl) ?_
  refine WL.nil (WX.then_normal ?_)
  refine WC.ret ?_
  exact WX.ret1 rfl rfl ⟨rfl, decide ((65536 : Int) ≤ (p_b.length : Int)), rfl, H⟩

set_option maxHeartbeats 8000000 in
theorem W_pval_printer_put {w : World} {g_p : Nat} {p_b : List UInt8} {A_p_b : Option Addr} {c_p_b : Nat} {l : List (List UInt8)} {A_l : Option Addr} {c_l : Nat} {n_p_b : Nat} {n_l : Nat} {K : (List UInt8) → Prop} (hp_b : Own vb w 0 5 A_p_b c_p_b p_b) (hn_p_b : n_p_b = p_b.length) (hp : Bl w g_p 79 [.slice A_p_b n_p_b c_p_b]) (hl : Rd vs w A_l c_l l) (hn_l : n_l = l.length) (hdj0_1 : Dj (some g_p) (blk A_p_b)) (hap0 : AllP (Dn l (blk A_l)) [(some g_p), (blk A_p_b)]) (H : M_pval_printer_put p_b l K) : Fn Tryd.prog 49 ⟨[.pointer (some ⟨g_p, 0, none⟩), .slice A_l n_l c_l]⟩ w (fun v w' => GrL [(some g_p), (blk A_p_b)] w w' ∧ ∃ (p_b2 : List UInt8), ∃ (A_p_b2 : Option Addr), ∃ (c_p_b2 : Nat), v = .tuple #[] ∧ Bl w' g_p 79 [.slice A_p_b2 p_b2.length c_p_b2] ∧ Own vb w' 0 5 A_p_b2 c_p_b2 p_b2 ∧ InP [(some g_p), (blk A_p_b)] w.heap.size (blk A_p_b2) ∧ Dj (some g_p) (blk A_p_b2) ∧ K p_b2) := by
  subst hn_p_b
  subst hn_l
  unfold M_pval_printer_put at H
  refine Fn.enter (by kernel_rfl) Tryd.func49 rfl Tryd.ntmps49 rfl ?_
  replace H := H (Nat.le_trans hp_b.rd.cap hp_b.rd.max)
  replace H := H (Nat.le_trans hl.cap hl.max)
  have hNoAt : AllP (NoAt w) [(some g_p), (blk A_p_b)] := (apC (NoAt.bl hp rfl) (apC (NoAt.own hp_b rfl) apN))
  refine WC.seq ?_
  refine WC.region ?_
  refine WL.y rfl (Yld.pure tab_ok rfl) ?_
  refine WL.y rfl (Yld.pure tab_ok rfl) ?_
  refine WL.y rfl (Yld.pure tab_ok rfl) ?_
  refine WL.nil (WX.then_normal ?_)
  refine WC.block ?_
  obtain ⟨I1, mu1, h0_1, HR1⟩ := H
  refine WC.loopF (fun n' L' w' => ∃ (t8 : Int), ∃ (p0 : List UInt8), ∃ (A_p0 : Option Addr), ∃ (c_p0 : Nat), ∃ (n_p0 : Nat), n' = mu1 t8 p0 ∧ L' = [(0, .pointer (some ⟨g_p, 0, none⟩)), (6, .slice A_l l.length c_l), (7, .int .i64 (l.length : Int)), (8, .int .i64 t8)] ∧ I1 t8 p0 ∧ n_p0 = p0.length ∧ GrL [(some g_p), (blk A_p_b)] w w' ∧ Bl w' g_p 79 [.slice A_p0 n_p0 c_p0] ∧ Own vb w' 0 5 A_p0 c_p0 p0 ∧ Dj (some g_p) (blk A_p0) ∧ InP [(some g_p), (blk A_p_b)] w.heap.size (blk A_p0)) _ _ ⟨(0 : Int), p_b, A_p_b, c_p_b, p_b.length, rfl, rfl, h0_1, rfl, (GrL.refl _), hp, hp_b, hdj0_1, (InP.mem (List.Mem.tail _ (List.Mem.head _)))⟩ (by repeat (first | exact Sub.nil | refine Sub.cons rfl ?_)) ?_
  clear h0_1
  rintro _ _ w1 ⟨t8, p0, A_p0, c_p0, n_p0, rfl, rfl, hI1, rfl, gr1, k1, k2, dj1, hi1⟩
  have H := HR1 t8 p0 hI1
  refine WC.seq ?_
  refine WC.region ?_
  refine WL.y rfl (Yld.pure tab_ok rfl) ?_
  refine WL.nil (WX.then_normal ?_)
  refine WC.seq ?_
  refine WC.cond rfl (fun b1 => ?_) (fun b1 => ?_)
  · replace H := H.1 (of_decide_eq_true b1)
    refine WC.skip (WX.then_normal ?_)
    refine WC.seq ?_
    refine WC.block ?_
    refine WC.seq ?_
    refine WC.region ?_
    obtain ⟨h1, H⟩ := H
    refine WL.y rfl (Yld.iaddrW tab_ok (hl.goL gr1 hap0) rfl rfl rfl rfl h1.1 h1.2) ?_
    refine WL.y rfl (Yld.iload [] tab_ok (hl.goL gr1 hap0) rfl rfl (iltN h1 rfl)) ?_
    refine WL.y rfl (Yld.pure tab_ok rfl) ?_
    refine WL.nil (WX.then_normal ?_)
    refine WC.chainF (fun k => !(Nat.beq k 16 || Nat.beq k 19)) (LD [4, 11] (fun w' => Bl w' g_p 79 [.slice A_p0 p0.length c_p0])) mixed (by kernel_rfl) (fun k w' h _ => (bl_eqv h k1)) ?_
    refine WJ.y rfl rfl (fun w' hw' => Yld.pure tab_ok rfl) ?_
    refine WJ.y rfl rfl (fun w' hw' => Yld.pure tab_ok rfl) ?_
    refine WJ.y rfl rfl (fun w' hw' => Yld.pure tab_ok rfl) ?_
    refine WJ.y rfl rfl (fun w' hw' => Yld.pure tab_ok rfl) ?_
    refine WJ.y rfl rfl (fun w' hw' => Yld.bload tab_ok (hw' rfl) rfl rfl rfl) ?_
    refine WJ.y rfl rfl (fun w' hw' => Yld.pure tab_ok rfl) ?_
    refine WJ.y rfl rfl (fun w' hw' => Yld.pure tab_ok rfl) ?_
    refine WJ.y rfl rfl (fun w' hw' => Yld.pure tab_ok rfl) ?_
    refine WJ.y rfl rfl (fun w' hw' => Yld.pure tab_ok rfl) ?_
    refine WJ.y rfl rfl (fun w' hw' => Yld.pure tab_ok rfl) ?_
    refine WJ.y rfl rfl (fun w' hw' => Yld.pure tab_ok rfl) ?_
    refine WJ.y rfl rfl (fun w' hw' => Yld.bload tab_ok (hw' rfl) rfl rfl rfl) ?_
    refine WJ.y rfl rfl (fun w' hw' => Yld.pure tab_ok rfl) ?_
    obtain ⟨h2, H⟩ := H
    refine WJ.y rfl rfl (fun w' hw' => Yld.sub rfl rfl h2) ?_
    refine WJ.y rfl rfl (fun w' hw' => Yld.min2 rfl rfl) ?_
    obtain ⟨h3, H⟩ := H
    refine WJ.y rfl rfl (fun w' hw' => Yld.scut tab_ok rfl rfl rfl rfl (Int.le_refl 0) h3.1 h3.2) ?_
    obtain ⟨h4, H⟩ := H
    refine WJ.putw rfl (wants_none) rfl (Eff.appendS tab_ok rfl rfl k2 rfl rfl rfl h4 (applen h4) (Nat.zero_le _)) (fun v w' ⟨_, _, _, _, h, _⟩ => DD.keep (Bl.go k1 (gr_eqv h (Eqv.refl _)) dj1)) ?_
    rintro _ w2 ⟨A_t28, c_t28, rfl, hO1, hg1, hk1⟩
    have gr2 : GrL [(some g_p), (blk A_p_b)] w w2 := GrL.mod gr1 hg1 hi1
    have k3 := k1.go hg1 dj1
    refine WJ.y rfl rfl (fun w' hw' => Yld.pure tab_ok rfl) ?_
    refine WJ.y rfl rfl (fun w' hw' => Yld.pure tab_ok rfl) ?_
    refine WJ.eff rfl (Ef0.store1 one77 rfl rfl rfl k3 (by simp)) (fun w' h => DD.past (by kernel_rfl)) ?_
    rintro w3 ⟨hB2, hg2⟩
    have hB1 : Bl w3 g_p 79 [.slice A_t28 ((p0 ++ ((l.getD t8.toNat []).take (if ((65536 : Int) - (p0.length : Int)) < ((l.getD t8.toNat []).length : Int) then (65536 : Int) - (p0.length : Int) else ((l.getD t8.toNat []).length : Int)).toNat)).length) c_t28] := hB2
    have gr3 : GrL [(some g_p), (blk A_p_b)] w w3 := GrL.mod gr2 hg2 (InP.mem (List.Mem.head _))
    have k4 := hO1.go hg2 (Dj.app dj1.symm k1.lt' hk1)
    refine WJ.nil (WX.block_normal (WX.then_normal ?_))
    refine WC.region ?_
    obtain ⟨h5, H⟩ := H
    refine WL.y rfl (Yld.add rfl rfl h5) ?_
    refine WL.y rfl (Yld.pure tab_ok rfl) ?_
    refine WL.nil ?_
    exact WX.roundF _ ⟨t8 + (1 : Int), p0 ++ ((l.getD t8.toNat []).take (if ((65536 : Int) - (p0.length : Int)) < ((l.getD t8.toNat []).length : Int) then (65536 : Int) - (p0.length : Int) else ((l.getD t8.toNat []).length : Int)).toNat), A_t28, c_t28, (p0 ++ ((l.getD t8.toNat []).take (if ((65536 : Int) - (p0.length : Int)) < ((l.getD t8.toNat []).length : Int) then (65536 : Int) - (p0.length : Int) else ((l.getD t8.toNat []).length : Int)).toNat)).length, rfl, rfl, H.1, rfl, gr3, hB1, k4, (Dj.app dj1.symm k1.lt' hk1).symm, (InP.app hi1 hk1 (GrL.sizeL gr1))⟩ (by repeat (first | exact Sub.nil | refine Sub.cons rfl ?_)) H.2
  · replace H := H.2 (of_decide_eq_false b1)
    refine WC.exit (WX.then_exit (WX.then_exit (WX.block_same ?_)))
    exact WX.end0 rfl ⟨gr1, p0, A_p0, c_p0, rfl, k1, k2, hi1, dj1, H⟩

set_option maxHeartbeats 8000000 in
theorem W_pval_printer_repr {w : World} {g_p : Nat} {p_b : List UInt8} {A_p_b : Option Addr} {c_p_b : Nat} {v_v : OV} {F_v : Nat → Prop} {v_ : PV} {deep : Int} {n_p_b : Nat} {K : (List UInt8) → Prop} (hp_b : Own vb w 0 5 A_p_b c_p_b p_b) (hn_p_b : n_p_b = p_b.length) (hp : Bl w g_p 79 [.slice A_p_b n_p_b c_p_b]) (hv_ : RelD deV w [(v_v, F_v)] [v_]) (hdj0_1 : Dj (some g_p) (blk A_p_b)) (hap0 : AllP (DnD deV [(v_v, F_v)] [v_]) [(some g_p), (blk A_p_b)]) (H : M_pval_printer_repr p_b v_ deep K) : Fn Tryd.prog 27 ⟨[.pointer (some ⟨g_p, 0, none⟩), v_v.1, .int .i64 deep]⟩ w (fun v w' => GrL [(some g_p), (blk A_p_b)] w w' ∧ ∃ (p_b2 : List UInt8), ∃ (A_p_b2 : Option Addr), ∃ (c_p_b2 : Nat), v = .tuple #[] ∧ Bl w' g_p 79 [.slice A_p_b2 p_b2.length c_p_b2] ∧ Own vb w' 0 5 A_p_b2 c_p_b2 p_b2 ∧ InP [(some g_p), (blk A_p_b)] w.heap.size (blk A_p_b2) ∧ Dj (some g_p) (blk A_p_b2) ∧ K p_b2) := by
  subst hn_p_b
  unfold M_pval_printer_repr at H
  refine Fn.enter (by kernel_rfl) Tryd.func27 rfl Tryd.ntmps27 rfl ?_
  replace H := H (Nat.le_trans hp_b.rd.cap hp_b.rd.max)
  have hNoAt : AllP (NoAt w) [(some g_p), (blk A_p_b)] := (apC (NoAt.bl hp rfl) (apC (NoAt.own hp_b rfl) apN))
  refine WC.seq ?_
  refine WC.seq ?_
  refine WC.region ?_
  refine WL.y rfl (Yld.pure tab_ok rfl) ?_
  refine WL.call rfl rfl (W_pval_printer_full hp_b.rd rfl hp H) ?_
  rintro _ _ ⟨rfl, t17, rfl, H⟩
  refine WL.nil (WX.then_normal ?_)
  refine WC.cond rfl (fun b1 => ?_) (fun b1 => ?_)
  · replace H := H.1 (b1)
    refine WC.ret (WX.then_ret ?_)
    exact WX.ret0 rfl ⟨(GrL.refl _), p_b, A_p_b, c_p_b, rfl, hp, hp_b, (InP.mem (List.Mem.tail _ (List.Mem.head _))), hdj0_1, H⟩
  · replace H := H.2 (b1)
    refine WC.skip (WX.then_normal ?_)
    refine WC.seq ?_
    refine WC.region ?_
    refine WL.y rfl (Yld.pure tab_ok rfl) ?_
    refine WL.nil (WX.then_normal ?_)
    refine WC.block ?_
    refine WC.seq ?_
    refine WC.region ?_
    obtain ⟨h1, H⟩ := H
    refine WL.y rfl (assertNoV (z := .agg ⟨[]⟩) Tryd.underlying111 rfl (fun _ => by kernel_rfl) hv_ rfl (tyP_none h1)) ?_
    refine WL.y rfl (Yld.pure tab_ok rfl) ?_
    refine WL.y rfl (Yld.pure tab_ok rfl) ?_
    refine WL.nil (WX.then_normal ?_)
    refine WC.cond rfl (fun h => by cases h) (fun _ => ?_)
    refine WC.seq ?_
    refine WC.region ?_
    refine WL.y rfl (assertNoV (z := .bool false) Tryd.underlying113 rfl (fun _ => by kernel_rfl) hv_ rfl (tyP_no rfl v_)) ?_
    refine WL.y rfl (Yld.pure tab_ok rfl) ?_
    refine WL.y rfl (Yld.pure tab_ok rfl) ?_
    refine WL.nil (WX.then_normal ?_)
    refine WC.cond rfl (fun h => by cases h) (fun _ => ?_)
    refine WC.seq ?_
    refine WC.region ?_
    rcases PV.intCases v_ with ⟨z, he1⟩ | he1
    · replace H := H.1 z he1
      obtain ⟨a, b, hv1, hN1, one1, one2, hL1⟩ := VR.intOut hv_ he1
      refine WL.y rfl (assertYesV Tryd.underlying116 rfl rfl hv1) ?_
      refine WL.y rfl (Yld.pure tab_ok rfl) ?_
      refine WL.y rfl (Yld.pure tab_ok rfl) ?_
      refine WL.nil (WX.then_normal ?_)
      refine WC.cond rfl (fun _ => ?_) (fun h => by cases h)
      refine WC.seq ?_
      refine WC.region ?_
      refine WL.alloc rfl zero116 (fun g1 w1 hB1 hg1 hl1 => ?_)
      have gr1 := (GrL.of0 (ps := [(some g_p), (blk A_p_b)]) hg1)
      have k1 := hp_b.grown hg1
      have k2 := hp.g0 hg1
      have k3 := hN1.grown hg1
      refine WL.storeW (vs := [a, b]) tab_ok rfl rfl rfl (all1c one1 (all1c one2 all1n)) hB1 rfl rfl (fun w2 hB2 hg2 => ?_)
      have gr2 : GrL [(some g_p), (blk A_p_b)] w w2 := GrL.mod gr1 hg2 (InP.ge (Ge.le (Ge.box hl1) (Nat.le_refl _)))
      have k4 := k1.go hg2 (Dj.new hp_b.lt' (Ge.box hl1))
      have k5 := k2.go hg2 (Dj.new hp.lt' (Ge.box hl1))
      have k6 := Nm.goV k3 hL1 (GrL.of1 hg2) (apC (DnD.one (hv_.inp hap0 (InP.ge (Ge.le (Ge.box hl1) (Nat.le_refl _))))) apN)
      refine WL.nil (WX.then_normal ?_)
      refine WC.region ?_
      refine WL.y rfl (Yld.pure tab_ok rfl) ?_
      refine WL.y rfl (Yld.fa0 (o := 0) (by kernel_rfl) rfl) ?_
      refine WL.y rfl (Yld.bagg (vs := [a, b]) tab_ok hB2 rfl rfl rfl rfl) ?_
      refine WL.call rfl rfl (W_num_Num_Text k6 H) ?_
      rintro _ w3 ⟨hg3, t41, rfl, H⟩
      have gr3 := GrL.add0 gr2 hg3
      have k7 := k4.grown hg3
      have k8 := k5.g0 hg3
      refine WL.lit tab_ok rfl rfl rfl (all1c rfl all1n) rfl (by omega) (fun g2 w4 hB3 hg4 hl2 => ?_)
      have hO1 : Own vs w4 w.heap.size 9 (some ⟨g2, 0, none⟩) 1 ([t41] : List (List UInt8)) := Own.ofBl hB3 (Nat.le_trans (GrL.sizeL gr3) hl2) (by simp [maxLen]) rfl
      have gr4 := GrL.add0 gr3 hg4
      have k9 := k7.grown hg4
      have k10 := k8.g0 hg4
      refine WL.call rfl rfl (W_pval_printer_put k9 rfl k10 hO1.rd rfl hdj0_1 (apC (Dn.of (Dj.new k8.lt' (Ge.box hl2)).symm) (apC (Dn.of (Dj.new k7.lt' (Ge.box hl2)).symm) apN)) H) ?_
      rintro _ w5 ⟨hgl1, p_, A_p_, c_p_, rfl, hB4, hO2, hi1, dj1, H⟩
      have hi2 : InP [(some g_p), (blk A_p_b)] w.heap.size (blk A_p_) := InP.trans hi1 (apC (InP.mem (List.Mem.head _)) (apC (InP.mem (List.Mem.tail _ (List.Mem.head _))) apN)) (GrL.sizeL gr4)
      have gr5 : GrL [(some g_p), (blk A_p_b)] w w5 := GrL.modL gr4 hgl1 (apC (InP.mem (List.Mem.head _)) (apC (InP.mem (List.Mem.tail _ (List.Mem.head _))) apN))
      refine WL.nil (WX.block_normal ?_)
      exact WX.end0 rfl ⟨gr5, p_, A_p_, c_p_, rfl, hB4, hO2, hi2, dj1, H⟩
    · replace H := H.2 he1
      refine WL.y rfl (assertNoV (z := .agg ⟨[.bool false, .slice none 0 0]⟩) Tryd.underlying116 rfl (fun _ => by kernel_rfl) hv_ rfl (tyP_int he1)) ?_
      refine WL.y rfl (Yld.pure tab_ok rfl) ?_
      refine WL.y rfl (Yld.pure tab_ok rfl) ?_
      refine WL.nil (WX.then_normal ?_)
      refine WC.cond rfl (fun h => by cases h) (fun _ => ?_)
      refine WC.seq ?_
      refine WC.region ?_
      refine WL.y rfl (assertNoV (z := vs ([] : List UInt8)) Tryd.underlying117 rfl (fun _ => by kernel_rfl) hv_ rfl (tyP_no rfl v_)) ?_
      refine WL.y rfl (Yld.pure tab_ok rfl) ?_
      refine WL.y rfl (Yld.pure tab_ok rfl) ?_
      refine WL.nil (WX.then_normal ?_)
      refine WC.cond rfl (fun h => by cases h) (fun _ => ?_)
      refine WC.seq ?_
      refine WC.region ?_
      refine WL.y rfl (assertNoI (z := .nilIface) Tryd.underlying120 (fun _ => by kernel_rfl) (by decide +kernel) hv_ rfl) ?_
      refine WL.y rfl (Yld.pure tab_ok rfl) ?_
      refine WL.y rfl (Yld.pure tab_ok rfl) ?_
      refine WL.nil (WX.then_normal ?_)
      refine WC.cond rfl (fun h => by cases h) (fun _ => ?_)
      refine WC.seq ?_
      refine WC.region ?_
      refine WL.y rfl (assertNoI (z := .nilIface) Tryd.underlying122 (fun _ => by kernel_rfl) (by decide +kernel) hv_ rfl) ?_
      refine WL.y rfl (Yld.pure tab_ok rfl) ?_
      refine WL.y rfl (Yld.pure tab_ok rfl) ?_
      refine WL.nil (WX.then_normal ?_)
      refine WC.cond rfl (fun h => by cases h) (fun _ => ?_)
      refine WC.seq ?_
      refine WC.region ?_
      refine WL.y rfl (assertNoI (z := .nilIface) Tryd.underlying125 (fun _ => by kernel_rfl) (by decide +kernel) hv_ rfl) ?_
      refine WL.y rfl (Yld.pure tab_ok rfl) ?_
      refine WL.y rfl (Yld.pure tab_ok rfl) ?_
      refine WL.nil (WX.then_normal ?_)
      refine WC.cond rfl (fun h => by cases h) (fun _ => ?_)
      refine WC.seq ?_
      refine WC.region ?_
      refine WL.y rfl (Yld.pure tab_ok rfl) ?_
      refine WL.nil (WX.then_normal ?_)
      refine WC.region ?_
      refine WL.y rfl (Yld.pure tab_ok rfl) ?_
      refine WL.y rfl (Yld.pure tab_ok rfl) ?_
      refine WL.y rfl (Yld.pure tab_ok rfl) ?_
      exact False.elim H

set_option maxHeartbeats 8000000 in
theorem W_pval_printer_items {w : World} {g_p : Nat} {p_b : List UInt8} {A_p_b : Option Addr} {c_p_b : Nat} {l : List PV} {A_l : Option Addr} {c_l : Nat} {hs_l : List VH} {deep : Int} {n_p_b : Nat} {n_l : Nat} {K : (List UInt8) → Prop} (hp_b : Own vb w 0 5 A_p_b c_p_b p_b) (hn_p_b : n_p_b = p_b.length) (hp : Bl w g_p 79 [.slice A_p_b n_p_b c_p_b]) (hl : Rd vv w A_l c_l hs_l) (hn_l : n_l = l.length) (hr_l : RelD deV w hs_l l) (hdj0_1 : Dj (some g_p) (blk A_p_b)) (hap0 : AllP (Dn hs_l (blk A_l)) [(some g_p), (blk A_p_b)]) (hap1 : AllP (DnD deV hs_l l) [(some g_p), (blk A_p_b)]) (H : M_pval_printer_items p_b l deep K) : Fn Tryd.prog 53 ⟨[.pointer (some ⟨g_p, 0, none⟩), .slice A_l n_l c_l, .int .i64 deep]⟩ w (fun v w' => GrL [(some g_p), (blk A_p_b)] w w' ∧ ∃ (p_b2 : List UInt8), ∃ (A_p_b2 : Option Addr), ∃ (c_p_b2 : Nat), v = .tuple #[] ∧ Bl w' g_p 79 [.slice A_p_b2 p_b2.length c_p_b2] ∧ Own vb w' 0 5 A_p_b2 c_p_b2 p_b2 ∧ InP [(some g_p), (blk A_p_b)] w.heap.size (blk A_p_b2) ∧ Dj (some g_p) (blk A_p_b2) ∧ K p_b2) := by
  subst hn_p_b
  subst hn_l
  unfold M_pval_printer_items at H
  refine Fn.enter (by kernel_rfl) Tryd.func53 rfl Tryd.ntmps53 rfl ?_
  replace H := H (Nat.le_trans hp_b.rd.cap hp_b.rd.max)
  replace H := H (by rw [← hr_l.1]; exact Nat.le_trans hl.cap hl.max)
  have hNoAt : AllP (NoAt w) [(some g_p), (blk A_p_b)] := (apC (NoAt.bl hp rfl) (apC (NoAt.own hp_b rfl) apN))
  refine WC.seq ?_
  refine WC.region ?_
  refine WL.y rfl (Yld.pure tab_ok rfl) ?_
  refine WL.y rfl (Yld.pure tab_ok rfl) ?_
  refine WL.y rfl (Yld.pure tab_ok rfl) ?_
  refine WL.nil (WX.then_normal ?_)
  refine WC.block ?_
  obtain ⟨I1, mu1, h0_1, HR1⟩ := H
  refine WC.loopF (fun n' L' w' => ∃ (t10 : Int), ∃ (p0 : List UInt8), ∃ (A_p0 : Option Addr), ∃ (c_p0 : Nat), ∃ (n_p0 : Nat), n' = mu1 t10 p0 ∧ L' = [(0, .pointer (some ⟨g_p, 0, none⟩)), (2, .int .i64 deep), (8, .slice A_l l.length c_l), (9, .int .i64 (l.length : Int)), (10, .int .i64 t10)] ∧ I1 t10 p0 ∧ n_p0 = p0.length ∧ GrL [(some g_p), (blk A_p_b)] w w' ∧ Bl w' g_p 79 [.slice A_p0 n_p0 c_p0] ∧ Own vb w' 0 5 A_p0 c_p0 p0 ∧ Dj (some g_p) (blk A_p0) ∧ InP [(some g_p), (blk A_p_b)] w.heap.size (blk A_p0)) _ _ ⟨(0 : Int), p_b, A_p_b, c_p_b, p_b.length, rfl, rfl, h0_1, rfl, (GrL.refl _), hp, hp_b, hdj0_1, (InP.mem (List.Mem.tail _ (List.Mem.head _)))⟩ (by repeat (first | exact Sub.nil | refine Sub.cons rfl ?_)) ?_
  clear h0_1
  rintro _ _ w1 ⟨t10, p0, A_p0, c_p0, n_p0, rfl, rfl, hI1, rfl, gr1, k1, k2, dj1, hi1⟩
  have H := HR1 t10 p0 hI1
  refine WC.seq ?_
  refine WC.region ?_
  refine WL.y rfl (Yld.pure tab_ok rfl) ?_
  refine WL.nil (WX.then_normal ?_)
  refine WC.seq ?_
  refine WC.cond rfl (fun b1 => ?_) (fun b1 => ?_)
  · replace H := H.1 (of_decide_eq_true b1)
    refine WC.skip (WX.then_normal ?_)
    refine WC.seq ?_
    refine WC.block ?_
    refine WC.seq ?_
    refine WC.region ?_
    refine WL.y rfl (Yld.pure tab_ok rfl) ?_
    obtain ⟨h1, H⟩ := H
    refine WL.y rfl (Yld.iaddrW tab_ok (hl.goL gr1 hap0) rfl rfl hr_l.1.symm rfl h1.1 h1.2) ?_
    obtain ⟨⟨v_el, F_el⟩, eh1, hR1⟩ := RelD.at (hr_l.goL gr1 hap1) vh0 PV.nil (j := t10.toNat) (Nat.lt_of_lt_of_eq (iltN h1 hr_l.1.symm) (hr_l.goL gr1 hap1).1)
    have hv1 : RelD deV w1 [(v_el, F_el)] [l.getD t10.toNat PV.nil] := RelD.cons hR1 RelD.nil
    refine WL.y rfl (Yld.to (v := v_el.1) (Yld.iload vh0 tab_ok (hl.goL gr1 hap0) rfl rfl (iltN h1 hr_l.1.symm)) (congrArg vv eh1)) ?_
    refine WL.y rfl (Yld.pure tab_ok rfl) ?_
    refine WL.y rfl (Yld.pure tab_ok rfl) ?_
    refine WL.nil (WX.then_normal ?_)
    refine WC.seq ?_
    refine WC.seq ?_
    refine WC.region ?_
    refine WL.y rfl (Yld.pure tab_ok rfl) ?_
    refine WL.call rfl rfl (W_pval_printer_full k2.rd rfl k1 H) ?_
    rintro _ _ ⟨rfl, t16, rfl, H⟩
    refine WL.nil (WX.then_normal ?_)
    refine WC.cond rfl (fun b2 => ?_) (fun b2 => ?_)
    · replace H := H.1 (b2)
      refine WC.ret (WX.then_ret (WX.block_ret (WX.then_ret (WX.then_ret (WX.block_ret ?_)))))
      exact WX.ret0 rfl ⟨gr1, p0, A_p0, c_p0, rfl, k1, k2, hi1, dj1, H⟩
    · replace H := H.2 (b2)
      refine WC.skip (WX.then_normal ?_)
      refine WC.seq ?_
      obtain ⟨J1, H, hJ1⟩ := H
      refine WC.midF (fun L' w' => ∃ (p02 : List UInt8), ∃ (A_p02 : Option Addr), ∃ (c_p02 : Nat), ∃ (n_p02 : Nat), L' = [(0, .pointer (some ⟨g_p, 0, none⟩)), (2, .int .i64 deep), (7, v_el.1), (8, .slice A_l l.length c_l), (9, .int .i64 (l.length : Int)), (10, .int .i64 t10)] ∧ J1 p02 ∧ n_p02 = p02.length ∧ GrL [(some g_p), (blk A_p_b)] w w' ∧ Bl w' g_p 79 [.slice A_p02 n_p02 c_p02] ∧ RelD deV w' [(v_el, F_el)] [l.getD t10.toNat PV.nil] ∧ Own vb w' 0 5 A_p02 c_p02 p02 ∧ Dj (some g_p) (blk A_p02) ∧ DnD deV [(v_el, F_el)] [l.getD t10.toNat PV.nil] (blk A_p02) ∧ InP [(some g_p), (blk A_p_b)] w.heap.size (blk A_p02)) ?_ (fun hQ => ?_)
      · clear H
        rintro _ w2 ⟨p02, A_p02, c_p02, n_p02, rfl, H, rfl, gr2, k3, k4, k5, dj2, dj3, hi2⟩
        replace H := hJ1 p02 H
        refine WX.then_normal ?_
        refine WC.region ?_
        refine WL.y rfl (Yld.pure tab_ok rfl) ?_
        refine WL.y rfl (Yld.pure tab_ok rfl) ?_
        refine WL.y rfl (Yld.pure tab_ok rfl) ?_
        refine WL.call rfl rfl (W_pval_printer_repr k5 rfl k3 k4 dj2 (apC (DnD.cons (DnD.at (hr_l.inp hap1 (InP.mem (List.Mem.head _))) (hr_l.goL gr1 hap1).1 (Nat.lt_of_lt_of_eq (iltN h1 hr_l.1.symm) (hr_l.goL gr1 hap1).1) eh1) DnD.nil) (apC dj3 apN)) H) ?_
        rintro _ w3 ⟨hgl1, p_, A_p_, c_p_, rfl, hB1, hO1, hi3, dj4, H⟩
        have hi4 : InP [(some g_p), (blk A_p_b)] w.heap.size (blk A_p_) := InP.trans hi3 (apC (InP.mem (List.Mem.head _)) (apC hi2 apN)) (GrL.sizeL gr2)
        have gr3 : GrL [(some g_p), (blk A_p_b)] w w3 := GrL.modL gr2 hgl1 (apC (InP.mem (List.Mem.head _)) (apC hi2 apN))
        refine WL.nil (WX.block_normal (WX.then_normal ?_))
        refine WC.region ?_
        obtain ⟨h2, H⟩ := H
        refine WL.y rfl (Yld.add rfl rfl h2) ?_
        refine WL.y rfl (Yld.pure tab_ok rfl) ?_
        refine WL.nil ?_
        exact WX.roundF _ ⟨t10 + (1 : Int), p_, A_p_, c_p_, p_.length, rfl, rfl, H.1, rfl, gr3, hB1, hO1, dj4, hi4⟩ (by repeat (first | exact Sub.nil | refine Sub.cons rfl ?_)) H.2
      · clear hJ1
        refine WC.seq ?_
        refine WC.region ?_
        refine WL.y rfl (Yld.pure tab_ok rfl) ?_
        refine WL.y rfl (Yld.pure tab_ok rfl) ?_
        refine WL.nil (WX.then_normal ?_)
        refine WC.cond rfl (fun b3 => ?_) (fun b3 => ?_)
        · replace H := H.1 (of_decide_eq_true b3)
          refine WC.region ?_
          refine WL.y rfl (Yld.pure tab_ok rfl) ?_
          refine WL.lit tab_ok rfl rfl rfl (all1c rfl all1n) rfl (by omega) (fun g1 w4 hB2 hg1 hl1 => ?_)
          have hO2 : Own vs w4 w.heap.size 9 (some ⟨g1, 0, none⟩) 1 ([([44, 32] : List UInt8)] : List (List UInt8)) := Own.ofBl hB2 (Nat.le_trans (GrL.sizeL gr1) hl1) (by simp [maxLen]) rfl
          have gr4 := GrL.add0 gr1 hg1
          have k6 := k1.g0 hg1
          have k7 := k2.grown hg1
          have k8 := hv1.grown hg1
          refine WL.call rfl rfl (W_pval_printer_put k7 rfl k6 hO2.rd rfl dj1 (apC (Dn.of (Dj.new k1.lt' (Ge.box hl1)).symm) (apC (Dn.of (Dj.new k2.lt' (Ge.box hl1)).symm) apN)) H) ?_
          rintro _ w5 ⟨hgl2, p_2, A_p_2, c_p_2, rfl, hB3, hO3, hi5, dj5, H⟩
          have hi6 : InP [(some g_p), (blk A_p_b)] w.heap.size (blk A_p_2) := InP.trans hi5 (apC (InP.mem (List.Mem.head _)) (apC hi1 apN)) (GrL.sizeL gr4)
          have gr5 : GrL [(some g_p), (blk A_p_b)] w w5 := GrL.modL gr4 hgl2 (apC (InP.mem (List.Mem.head _)) (apC hi1 apN))
          have k9 := k8.goL hgl2 (apC (DnD.cons (DnD.at (hr_l.inp hap1 (InP.mem (List.Mem.head _))) (hr_l.goL gr1 hap1).1 (Nat.lt_of_lt_of_eq (iltN h1 hr_l.1.symm) (hr_l.goL gr1 hap1).1) eh1) DnD.nil) (apC (DnD.cons (DnD.at (hr_l.inp hap1 hi1) (hr_l.goL gr1 hap1).1 (Nat.lt_of_lt_of_eq (iltN h1 hr_l.1.symm) (hr_l.goL gr1 hap1).1) eh1) DnD.nil) apN))
          refine WL.nil ?_
          exact WX.weaken (by repeat (first | exact Sub.nil | refine Sub.cons rfl ?_)) (hQ _ _ ⟨p_2, A_p_2, c_p_2, p_2.length, rfl, H, rfl, gr5, hB3, k9, hO3, dj5, (RelD.inp k8 (apC (DnD.cons (DnD.at (hr_l.inp hap1 (InP.mem (List.Mem.head _))) (hr_l.goL gr1 hap1).1 (Nat.lt_of_lt_of_eq (iltN h1 hr_l.1.symm) (hr_l.goL gr1 hap1).1) eh1) DnD.nil) (apC (DnD.cons (DnD.at (hr_l.inp hap1 hi1) (hr_l.goL gr1 hap1).1 (Nat.lt_of_lt_of_eq (iltN h1 hr_l.1.symm) (hr_l.goL gr1 hap1).1) eh1) DnD.nil) apN)) hi5), hi6⟩)
        · replace H := H.2 (of_decide_eq_false b3)
          refine WC.skip ?_
          exact WX.weaken (by repeat (first | exact Sub.nil | refine Sub.cons rfl ?_)) (hQ _ _ ⟨p0, A_p0, c_p0, p0.length, rfl, H, rfl, gr1, k1, hv1, k2, dj1, (DnD.cons (DnD.at (hr_l.inp hap1 hi1) (hr_l.goL gr1 hap1).1 (Nat.lt_of_lt_of_eq (iltN h1 hr_l.1.symm) (hr_l.goL gr1 hap1).1) eh1) DnD.nil), hi1⟩)
  · replace H := H.2 (of_decide_eq_false b1)
    refine WC.exit (WX.then_exit (WX.then_exit (WX.block_same ?_)))
    exact WX.end0 rfl ⟨gr1, p0, A_p0, c_p0, rfl, k1, k2, hi1, dj1, H⟩

set_option maxHeartbeats 8000000 in
theorem W_pval_printer_parts {w : World} {g_p : Nat} {p_b : List UInt8} {A_p_b : Option Addr} {c_p_b : Nat} {v_v : OV} {F_v : Nat → Prop} {v_ : PV} {deep : Int} {n_p_b : Nat} {K : (List UInt8) → Prop} (hp_b : Own vb w 0 5 A_p_b c_p_b p_b) (hn_p_b : n_p_b = p_b.length) (hp : Bl w g_p 79 [.slice A_p_b n_p_b c_p_b]) (hv_ : RelD deV w [(v_v, F_v)] [v_]) (hdj0_1 : Dj (some g_p) (blk A_p_b)) (hap0 : AllP (DnD deV [(v_v, F_v)] [v_]) [(some g_p), (blk A_p_b)]) (H : M_pval_printer_parts p_b v_ deep K) : Fn Tryd.prog 54 ⟨[.pointer (some ⟨g_p, 0, none⟩), v_v.1, .int .i64 deep]⟩ w (fun v w' => GrL [(some g_p), (blk A_p_b)] w w' ∧ ∃ (p_b2 : List UInt8), ∃ (A_p_b2 : Option Addr), ∃ (c_p_b2 : Nat), v = .tuple #[] ∧ Bl w' g_p 79 [.slice A_p_b2 p_b2.length c_p_b2] ∧ Own vb w' 0 5 A_p_b2 c_p_b2 p_b2 ∧ InP [(some g_p), (blk A_p_b)] w.heap.size (blk A_p_b2) ∧ Dj (some g_p) (blk A_p_b2) ∧ K p_b2) := by
  subst hn_p_b
  unfold M_pval_printer_parts at H
  refine Fn.enter (by kernel_rfl) Tryd.func54 rfl Tryd.ntmps54 rfl ?_
  replace H := H (Nat.le_trans hp_b.rd.cap hp_b.rd.max)
  have hNoAt : AllP (NoAt w) [(some g_p), (blk A_p_b)] := (apC (NoAt.bl hp rfl) (apC (NoAt.own hp_b rfl) apN))
  refine WC.seq ?_
  refine WC.seq ?_
  refine WC.region ?_
  refine WL.y rfl (Yld.pure tab_ok rfl) ?_
  refine WL.y rfl (Yld.pure tab_ok rfl) ?_
  refine WL.nil (WX.then_normal ?_)
  refine WC.cond rfl (fun b1 => ?_) (fun b1 => ?_)
  · replace H := H.1 (of_decide_eq_true b1)
    refine WC.seq ?_
    refine WC.region ?_
    refine WL.y rfl (Yld.pure tab_ok rfl) ?_
    refine WL.lit tab_ok rfl rfl rfl (all1c rfl all1n) rfl (by omega) (fun g1 w1 hB1 hg1 hl1 => ?_)
    have hO1 : Own vs w1 w.heap.size 9 (some ⟨g1, 0, none⟩) 1 ([([46, 46, 46] : List UInt8)] : List (List UInt8)) := Own.ofBl hB1 (Nat.le_trans (Nat.le_refl _) hl1) (by simp [maxLen]) rfl
    have gr1 := (GrL.of0 (ps := [(some g_p), (blk A_p_b)]) hg1)
    have k1 := hp_b.grown hg1
    have k2 := hp.g0 hg1
    refine WL.call rfl rfl (W_pval_printer_put k1 rfl k2 hO1.rd rfl hdj0_1 (apC (Dn.of (Dj.new hp.lt' (Ge.box hl1)).symm) (apC (Dn.of (Dj.new hp_b.lt' (Ge.box hl1)).symm) apN)) H) ?_
    rintro _ w2 ⟨hgl1, p_, A_p_, c_p_, rfl, hB2, hO2, hi1, dj1, H⟩
    have hi2 : InP [(some g_p), (blk A_p_b)] w.heap.size (blk A_p_) := InP.trans hi1 (apC (InP.mem (List.Mem.head _)) (apC (InP.mem (List.Mem.tail _ (List.Mem.head _))) apN)) (GrL.sizeL gr1)
    have gr2 : GrL [(some g_p), (blk A_p_b)] w w2 := GrL.modL gr1 hgl1 (apC (InP.mem (List.Mem.head _)) (apC (InP.mem (List.Mem.tail _ (List.Mem.head _))) apN))
    refine WL.nil (WX.then_normal ?_)
    refine WC.ret (WX.then_ret ?_)
    exact WX.ret0 rfl ⟨gr2, p_, A_p_, c_p_, rfl, hB2, hO2, hi2, dj1, H⟩
  · replace H := H.2 (of_decide_eq_false b1)
    refine WC.skip (WX.then_normal ?_)
    refine WC.seq ?_
    refine WC.region ?_
    refine WL.y rfl (Yld.pure tab_ok rfl) ?_
    refine WL.nil (WX.then_normal ?_)
    refine WC.block ?_
    refine WC.seq ?_
    refine WC.region ?_
    rcases PV.empCases v_ with he1 | he1
    · replace H := H.1 he1
      obtain ⟨g_l, A_l, c_l, hv1, hB3, hR1, hr1, hd1⟩ := VR.empOut hv_ he1
      refine WL.y rfl (assertYesV Tryd.underlying85 rfl rfl hv1) ?_
      refine WL.y rfl (Yld.pure tab_ok rfl) ?_
      refine WL.y rfl (Yld.pure tab_ok rfl) ?_
      refine WL.nil (WX.then_normal ?_)
      refine WC.cond rfl (fun _ => ?_) (fun h => by cases h)
      refine WC.seq ?_
      refine WC.region ?_
      refine WL.y rfl (Yld.pure tab_ok rfl) ?_
      refine WL.nil (WX.then_normal ?_)
      refine WC.seq ?_
      refine WC.region ?_
      refine WL.y rfl (Yld.pure tab_ok rfl) ?_
      refine WL.lit tab_ok rfl rfl rfl (all1c rfl all1n) rfl (by omega) (fun g2 w3 hB4 hg2 hl2 => ?_)
      have hO3 : Own vs w3 w.heap.size 9 (some ⟨g2, 0, none⟩) 1 ([([91] : List UInt8)] : List (List UInt8)) := Own.ofBl hB4 (Nat.le_trans (Nat.le_refl _) hl2) (by simp [maxLen]) rfl
      have gr3 := (GrL.of0 (ps := [(some g_p), (blk A_p_b)]) hg2)
      have k3 := hp_b.grown hg2
      have k4 := hp.g0 hg2
      have k5 := hR1.grown hg2
      have k6 := hr1.grown hg2
      have k7 := hB3.g0 hg2
      refine WL.call rfl rfl (W_pval_printer_put k3 rfl k4 hO3.rd rfl hdj0_1 (apC (Dn.of (Dj.new hp.lt' (Ge.box hl2)).symm) (apC (Dn.of (Dj.new hp_b.lt' (Ge.box hl2)).symm) apN)) H) ?_
      rintro _ w4 ⟨hgl2, p_2, A_p_2, c_p_2, rfl, hB5, hO4, hi3, dj2, H⟩
      have hi4 : InP [(some g_p), (blk A_p_b)] w.heap.size (blk A_p_2) := InP.trans hi3 (apC (InP.mem (List.Mem.head _)) (apC (InP.mem (List.Mem.tail _ (List.Mem.head _))) apN)) (GrL.sizeL gr3)
      have gr4 : GrL [(some g_p), (blk A_p_b)] w w4 := GrL.modL gr3 hgl2 (apC (InP.mem (List.Mem.head _)) (apC (InP.mem (List.Mem.tail _ (List.Mem.head _))) apN))
      have k8 := k5.goL hgl2 (apC (fun h => absurd rfl h) (apC (fun h => absurd rfl h) apN))
      have k9 := k6.goL hgl2 (apC (DnD.nil (d := deV)) (apC (DnD.nil (d := deV)) apN))
      have k10 := k7.goL hgl2 (apC (hd1 _ (hv_.inp hap0 (InP.mem (List.Mem.head _)))) (apC (hd1 _ (hv_.inp hap0 (InP.mem (List.Mem.tail _ (List.Mem.head _))))) apN))
      refine WL.nil (WX.then_normal ?_)
      refine WC.seq ?_
      refine WC.region ?_
      refine WL.y rfl (Yld.pure tab_ok rfl) ?_
      refine WL.y rfl (Yld.pure tab_ok rfl) ?_
      refine WL.y rfl (Yld.pure tab_ok rfl) ?_
      refine WL.y rfl (Yld.fa0 (o := 0) (by kernel_rfl) rfl) ?_
      refine WL.y rfl (Yld.bload tab_ok k10 rfl rfl rfl) ?_
      refine WL.y rfl (Yld.pure tab_ok rfl) ?_
      obtain ⟨h1, H⟩ := H
      refine WL.y rfl (Yld.add rfl rfl h1) ?_
      refine WL.call rfl rfl (W_pval_printer_items hO4 rfl hB5 k8 rfl k9 dj2 (apC (fun h => absurd rfl h) (apC (InP.dn hi3 (fun hx_ => k5.lt' hx_) (apC (fun h => absurd rfl h) (apC (fun h => absurd rfl h) apN))) apN)) (apC (DnD.nil (d := deV)) (apC (RelD.inp k6 (apC (DnD.nil (d := deV)) (apC (DnD.nil (d := deV)) apN)) hi3) apN)) H) ?_
      rintro _ w5 ⟨hgl3, p_3, A_p_3, c_p_3, rfl, hB6, hO5, hi5, dj3, H⟩
      have hi6 : InP [(some g_p), (blk A_p_b)] w.heap.size (blk A_p_3) := InP.trans hi5 (apC (InP.mem (List.Mem.head _)) (apC hi4 apN)) (GrL.sizeL gr4)
      have gr5 : GrL [(some g_p), (blk A_p_b)] w w5 := GrL.modL gr4 hgl3 (apC (InP.mem (List.Mem.head _)) (apC hi4 apN))
      refine WL.nil (WX.then_normal ?_)
      refine WC.region ?_
      refine WL.y rfl (Yld.pure tab_ok rfl) ?_
      refine WL.lit tab_ok rfl rfl rfl (all1c rfl all1n) rfl (by omega) (fun g3 w6 hB7 hg3 hl3 => ?_)
      have hO6 : Own vs w6 w.heap.size 9 (some ⟨g3, 0, none⟩) 1 ([([93] : List UInt8)] : List (List UInt8)) := Own.ofBl hB7 (Nat.le_trans (GrL.sizeL gr5) hl3) (by simp [maxLen]) rfl
      have gr6 := GrL.add0 gr5 hg3
      have k11 := hB6.g0 hg3
      have k12 := hO5.grown hg3
      refine WL.call rfl rfl (W_pval_printer_put k12 rfl k11 hO6.rd rfl dj3 (apC (Dn.of (Dj.new hB6.lt' (Ge.box hl3)).symm) (apC (Dn.of (Dj.new hO5.lt' (Ge.box hl3)).symm) apN)) H) ?_
      rintro _ w7 ⟨hgl4, p_4, A_p_4, c_p_4, rfl, hB8, hO7, hi7, dj4, H⟩
      have hi8 : InP [(some g_p), (blk A_p_b)] w.heap.size (blk A_p_4) := InP.trans hi7 (apC (InP.mem (List.Mem.head _)) (apC hi6 apN)) (GrL.sizeL gr6)
      have gr7 : GrL [(some g_p), (blk A_p_b)] w w7 := GrL.modL gr6 hgl4 (apC (InP.mem (List.Mem.head _)) (apC hi6 apN))
      refine WL.nil (WX.block_normal ?_)
      exact WX.end0 rfl ⟨gr7, p_4, A_p_4, c_p_4, rfl, hB8, hO7, hi8, dj4, H⟩
    · replace H := H.2 he1
      refine WL.y rfl (assertNoV (z := .pointer none) Tryd.underlying85 rfl (fun _ => by kernel_rfl) hv_ rfl (tyP_emp he1)) ?_
      refine WL.y rfl (Yld.pure tab_ok rfl) ?_
      refine WL.y rfl (Yld.pure tab_ok rfl) ?_
      refine WL.nil (WX.then_normal ?_)
      refine WC.cond rfl (fun h => by cases h) (fun _ => ?_)
      refine WC.seq ?_
      refine WC.region ?_
      rcases PV.tupCases v_ with ⟨l, he2⟩ | he2
      · replace H := H.1 l he2
        obtain ⟨g_t, A_t, c_t, hs_t, hv2, hB9, hR2, hr2, hd2, hd3, hd4⟩ := VR.tupOut hv_ he2
        refine WL.y rfl (assertYesV Tryd.underlying92 rfl rfl hv2) ?_
        refine WL.y rfl (Yld.pure tab_ok rfl) ?_
        refine WL.y rfl (Yld.pure tab_ok rfl) ?_
        refine WL.nil (WX.then_normal ?_)
        refine WC.cond rfl (fun _ => ?_) (fun h => by cases h)
        refine WC.seq ?_
        refine WC.region ?_
        refine WL.y rfl (Yld.pure tab_ok rfl) ?_
        refine WL.nil (WX.then_normal ?_)
        refine WC.seq ?_
        refine WC.region ?_
        refine WL.y rfl (Yld.pure tab_ok rfl) ?_
        refine WL.lit tab_ok rfl rfl rfl (all1c rfl all1n) rfl (by omega) (fun g4 w8 hB10 hg4 hl4 => ?_)
        have hO8 : Own vs w8 w.heap.size 9 (some ⟨g4, 0, none⟩) 1 ([([40] : List UInt8)] : List (List UInt8)) := Own.ofBl hB10 (Nat.le_trans (Nat.le_refl _) hl4) (by simp [maxLen]) rfl
        have gr8 := (GrL.of0 (ps := [(some g_p), (blk A_p_b)]) hg4)
        have k13 := hp_b.grown hg4
        have k14 := hp.g0 hg4
        have k15 := hR2.grown hg4
        have k16 := hr2.grown hg4
        have k17 := hB9.g0 hg4
        refine WL.call rfl rfl (W_pval_printer_put k13 rfl k14 hO8.rd rfl hdj0_1 (apC (Dn.of (Dj.new hp.lt' (Ge.box hl4)).symm) (apC (Dn.of (Dj.new hp_b.lt' (Ge.box hl4)).symm) apN)) H) ?_
        rintro _ w9 ⟨hgl5, p_5, A_p_5, c_p_5, rfl, hB11, hO9, hi9, dj5, H⟩
        have hi10 : InP [(some g_p), (blk A_p_b)] w.heap.size (blk A_p_5) := InP.trans hi9 (apC (InP.mem (List.Mem.head _)) (apC (InP.mem (List.Mem.tail _ (List.Mem.head _))) apN)) (GrL.sizeL gr8)
        have gr9 : GrL [(some g_p), (blk A_p_b)] w w9 := GrL.modL gr8 hgl5 (apC (InP.mem (List.Mem.head _)) (apC (InP.mem (List.Mem.tail _ (List.Mem.head _))) apN))
        have k18 := k15.goL hgl5 (apC (hd3 _ (hv_.inp hap0 (InP.mem (List.Mem.head _)))) (apC (hd3 _ (hv_.inp hap0 (InP.mem (List.Mem.tail _ (List.Mem.head _))))) apN))
        have k19 := k16.goL hgl5 (apC (hd4 _ (hv_.inp hap0 (InP.mem (List.Mem.head _)))) (apC (hd4 _ (hv_.inp hap0 (InP.mem (List.Mem.tail _ (List.Mem.head _))))) apN))
        have k20 := k17.goL hgl5 (apC (hd2 _ (hv_.inp hap0 (InP.mem (List.Mem.head _)))) (apC (hd2 _ (hv_.inp hap0 (InP.mem (List.Mem.tail _ (List.Mem.head _))))) apN))
        refine WL.nil (WX.then_normal ?_)
        refine WC.seq ?_
        refine WC.region ?_
        refine WL.y rfl (Yld.pure tab_ok rfl) ?_
        refine WL.y rfl (Yld.pure tab_ok rfl) ?_
        refine WL.y rfl (Yld.pure tab_ok rfl) ?_
        refine WL.y rfl (Yld.fa0 (o := 0) (by kernel_rfl) rfl) ?_
        refine WL.y rfl (Yld.bload tab_ok k20 rfl rfl rfl) ?_
        refine WL.y rfl (Yld.pure tab_ok rfl) ?_
        obtain ⟨h2, H⟩ := H
        refine WL.y rfl (Yld.add rfl rfl h2) ?_
        refine WL.call rfl rfl (W_pval_printer_items hO9 rfl hB11 k18 rfl k19 dj5 (apC (hd3 _ (hv_.inp hap0 (InP.mem (List.Mem.head _)))) (apC (InP.dn hi9 (fun hx_ => k15.lt' hx_) (apC (hd3 _ (hv_.inp hap0 (InP.mem (List.Mem.head _)))) (apC (hd3 _ (hv_.inp hap0 (InP.mem (List.Mem.tail _ (List.Mem.head _))))) apN))) apN)) (apC (hd4 _ (hv_.inp hap0 (InP.mem (List.Mem.head _)))) (apC (RelD.inp k16 (apC (hd4 _ (hv_.inp hap0 (InP.mem (List.Mem.head _)))) (apC (hd4 _ (hv_.inp hap0 (InP.mem (List.Mem.tail _ (List.Mem.head _))))) apN)) hi9) apN)) H) ?_
        rintro _ w10 ⟨hgl6, p_6, A_p_6, c_p_6, rfl, hB12, hO10, hi11, dj6, H⟩
        have hi12 : InP [(some g_p), (blk A_p_b)] w.heap.size (blk A_p_6) := InP.trans hi11 (apC (InP.mem (List.Mem.head _)) (apC hi10 apN)) (GrL.sizeL gr9)
        have gr10 : GrL [(some g_p), (blk A_p_b)] w w10 := GrL.modL gr9 hgl6 (apC (InP.mem (List.Mem.head _)) (apC hi10 apN))
        have k21 := k18.goL hgl6 (apC (hd3 _ (hv_.inp hap0 (InP.mem (List.Mem.head _)))) (apC (InP.dn hi9 (fun hx_ => k15.lt' hx_) (apC (hd3 _ (hv_.inp hap0 (InP.mem (List.Mem.head _)))) (apC (hd3 _ (hv_.inp hap0 (InP.mem (List.Mem.tail _ (List.Mem.head _))))) apN))) apN))
        have k22 := k19.goL hgl6 (apC (hd4 _ (hv_.inp hap0 (InP.mem (List.Mem.head _)))) (apC (RelD.inp k16 (apC (hd4 _ (hv_.inp hap0 (InP.mem (List.Mem.head _)))) (apC (hd4 _ (hv_.inp hap0 (InP.mem (List.Mem.tail _ (List.Mem.head _))))) apN)) hi9) apN))
        have k23 := k20.goL hgl6 (apC (hd2 _ (hv_.inp hap0 (InP.mem (List.Mem.head _)))) (apC (InP.dj hi9 k17.lt' (apC (hd2 _ (hv_.inp hap0 (InP.mem (List.Mem.head _)))) (apC (hd2 _ (hv_.inp hap0 (InP.mem (List.Mem.tail _ (List.Mem.head _))))) apN))).symm apN))
        refine WL.nil (WX.then_normal ?_)
        refine WC.seq ?_
        obtain ⟨J1, H, hJ1⟩ := H
        refine WC.midF (fun L' w' => ∃ (p0 : List UInt8), ∃ (A_p0 : Option Addr), ∃ (c_p0 : Nat), ∃ (n_p0 : Nat), L' = [(0, .pointer (some ⟨g_p, 0, none⟩))] ∧ J1 p0 ∧ n_p0 = p0.length ∧ GrL [(some g_p), (blk A_p_b)] w w' ∧ Bl w' g_p 79 [.slice A_p0 n_p0 c_p0] ∧ Own vb w' 0 5 A_p0 c_p0 p0 ∧ Dj (some g_p) (blk A_p0) ∧ InP [(some g_p), (blk A_p_b)] w.heap.size (blk A_p0)) ?_ (fun hQ => ?_)
        · clear H
          rintro _ w11 ⟨p0, A_p0, c_p0, n_p0, rfl, H, rfl, gr11, k24, k25, dj7, hi13⟩
          replace H := hJ1 p0 H
          refine WX.then_normal ?_
          refine WC.region ?_
          refine WL.y rfl (Yld.pure tab_ok rfl) ?_
          refine WL.lit tab_ok rfl rfl rfl (all1c rfl all1n) rfl (by omega) (fun g5 w12 hB13 hg5 hl5 => ?_)
          have hO11 : Own vs w12 w.heap.size 9 (some ⟨g5, 0, none⟩) 1 ([([41] : List UInt8)] : List (List UInt8)) := Own.ofBl hB13 (Nat.le_trans (GrL.sizeL gr11) hl5) (by simp [maxLen]) rfl
          have gr12 := GrL.add0 gr11 hg5
          have k26 := k24.g0 hg5
          have k27 := k25.grown hg5
          refine WL.call rfl rfl (W_pval_printer_put k27 rfl k26 hO11.rd rfl dj7 (apC (Dn.of (Dj.new k24.lt' (Ge.box hl5)).symm) (apC (Dn.of (Dj.new k25.lt' (Ge.box hl5)).symm) apN)) H) ?_
          rintro _ w13 ⟨hgl7, p_7, A_p_7, c_p_7, rfl, hB14, hO12, hi14, dj8, H⟩
          have hi15 : InP [(some g_p), (blk A_p_b)] w.heap.size (blk A_p_7) := InP.trans hi14 (apC (InP.mem (List.Mem.head _)) (apC hi13 apN)) (GrL.sizeL gr12)
          have gr13 : GrL [(some g_p), (blk A_p_b)] w w13 := GrL.modL gr12 hgl7 (apC (InP.mem (List.Mem.head _)) (apC hi13 apN))
          refine WL.nil (WX.block_normal ?_)
          exact WX.end0 rfl ⟨gr13, p_7, A_p_7, c_p_7, rfl, hB14, hO12, hi15, dj8, H⟩
        · clear hJ1
          refine WC.seq ?_
          refine WC.region ?_
          refine WL.y rfl (Yld.pure tab_ok rfl) ?_
          refine WL.y rfl (Yld.pure tab_ok rfl) ?_
          refine WL.y rfl (Yld.fa0 (o := 0) (by kernel_rfl) rfl) ?_
          refine WL.y rfl (Yld.bload tab_ok k23 rfl rfl rfl) ?_
          refine WL.y rfl (Yld.pure tab_ok rfl) ?_
          refine WL.y rfl (Yld.pure tab_ok rfl) ?_
          refine WL.nil (WX.then_normal ?_)
          refine WC.cond rfl (fun b2 => ?_) (fun b2 => ?_)
          · replace H := H.1 (of_decide_eq_true b2)
            refine WC.region ?_
            refine WL.y rfl (Yld.pure tab_ok rfl) ?_
            refine WL.lit tab_ok rfl rfl rfl (all1c rfl all1n) rfl (by omega) (fun g6 w14 hB15 hg6 hl6 => ?_)
            have hO13 : Own vs w14 w.heap.size 9 (some ⟨g6, 0, none⟩) 1 ([([44] : List UInt8)] : List (List UInt8)) := Own.ofBl hB15 (Nat.le_trans (GrL.sizeL gr10) hl6) (by simp [maxLen]) rfl
            have gr14 := GrL.add0 gr10 hg6
            have k28 := hB12.g0 hg6
            have k29 := hO10.grown hg6
            refine WL.call rfl rfl (W_pval_printer_put k29 rfl k28 hO13.rd rfl dj6 (apC (Dn.of (Dj.new hB12.lt' (Ge.box hl6)).symm) (apC (Dn.of (Dj.new hO10.lt' (Ge.box hl6)).symm) apN)) H) ?_
            rintro _ w15 ⟨hgl8, p_8, A_p_8, c_p_8, rfl, hB16, hO14, hi16, dj9, H⟩
            have hi17 : InP [(some g_p), (blk A_p_b)] w.heap.size (blk A_p_8) := InP.trans hi16 (apC (InP.mem (List.Mem.head _)) (apC hi12 apN)) (GrL.sizeL gr14)
            have gr15 : GrL [(some g_p), (blk A_p_b)] w w15 := GrL.modL gr14 hgl8 (apC (InP.mem (List.Mem.head _)) (apC hi12 apN))
            refine WL.nil ?_
            exact WX.weaken (by repeat (first | exact Sub.nil | refine Sub.cons rfl ?_)) (hQ _ _ ⟨p_8, A_p_8, c_p_8, p_8.length, rfl, H, rfl, gr15, hB16, hO14, dj9, hi17⟩)
          · replace H := H.2 (of_decide_eq_false b2)
            refine WC.skip ?_
            exact WX.weaken (by repeat (first | exact Sub.nil | refine Sub.cons rfl ?_)) (hQ _ _ ⟨p_6, A_p_6, c_p_6, p_6.length, rfl, H, rfl, gr10, hB12, hO10, dj6, hi12⟩)
      · replace H := H.2 he2
        refine WL.y rfl (assertNoV (z := .pointer none) Tryd.underlying92 rfl (fun _ => by kernel_rfl) hv_ rfl (tyP_tup he2)) ?_
        refine WL.y rfl (Yld.pure tab_ok rfl) ?_
        refine WL.y rfl (Yld.pure tab_ok rfl) ?_
        refine WL.nil (WX.then_normal ?_)
        refine WC.cond rfl (fun h => by cases h) (fun _ => ?_)
        refine WC.seq ?_
        refine WC.region ?_
        refine WL.y rfl (assertNoV (z := .pointer none) Tryd.underlying139 rfl (fun _ => by kernel_rfl) hv_ rfl (tyP_no rfl v_)) ?_
        refine WL.y rfl (Yld.pure tab_ok rfl) ?_
        refine WL.y rfl (Yld.pure tab_ok rfl) ?_
        refine WL.nil (WX.then_normal ?_)
        refine WC.cond rfl (fun h => by cases h) (fun _ => ?_)
        refine WC.seq ?_
        refine WC.region ?_
        refine WL.y rfl (assertNoV (z := .pointer none) Tryd.underlying159 rfl (fun _ => by kernel_rfl) hv_ rfl (tyP_no rfl v_)) ?_
        refine WL.y rfl (Yld.pure tab_ok rfl) ?_
        refine WL.y rfl (Yld.pure tab_ok rfl) ?_
        refine WL.nil (WX.then_normal ?_)
        refine WC.cond rfl (fun h => by cases h) (fun _ => ?_)
        refine WC.skip (WX.block_normal ?_)
        exact WX.end0 rfl ⟨(GrL.refl _), p_b, A_p_b, c_p_b, rfl, hp, hp_b, (InP.mem (List.Mem.tail _ (List.Mem.head _))), hdj0_1, H⟩

set_option maxHeartbeats 8000000 in
theorem W_val_printer_reprT {w : World} {g_p : Nat} {p_b : List UInt8} {A_p_b : Option Addr} {c_p_b : Nat} {v_v : OV} {F_v : Nat → Prop} {v_ : PV} {deep : Int} {n_p_b : Nat} {K : (List UInt8) → Prop} (hp_b : Own vb w 0 5 A_p_b c_p_b p_b) (hn_p_b : n_p_b = p_b.length) (hp : Bl w g_p 79 [.slice A_p_b n_p_b c_p_b]) (hv_ : RelD deV w [(v_v, F_v)] [v_]) (hdj0_1 : Dj (some g_p) (blk A_p_b)) (hap0 : AllP (DnD deV [(v_v, F_v)] [v_]) [(some g_p), (blk A_p_b)]) (H : M_val_printer_reprT p_b v_ deep K) : Fn Tryd.prog 27 ⟨[.pointer (some ⟨g_p, 0, none⟩), v_v.1, .int .i64 deep]⟩ w (fun v w' => GrL [(some g_p), (blk A_p_b)] w w' ∧ ∃ (p_b2 : List UInt8), ∃ (A_p_b2 : Option Addr), ∃ (c_p_b2 : Nat), v = .tuple #[] ∧ Bl w' g_p 79 [.slice A_p_b2 p_b2.length c_p_b2] ∧ Own vb w' 0 5 A_p_b2 c_p_b2 p_b2 ∧ InP [(some g_p), (blk A_p_b)] w.heap.size (blk A_p_b2) ∧ Dj (some g_p) (blk A_p_b2) ∧ K p_b2) := by
  subst hn_p_b
  unfold M_val_printer_reprT at H
  refine Fn.enter (by kernel_rfl) Tryd.func27 rfl Tryd.ntmps27 rfl ?_
  replace H := H (Nat.le_trans hp_b.rd.cap hp_b.rd.max)
  have hNoAt : AllP (NoAt w) [(some g_p), (blk A_p_b)] := (apC (NoAt.bl hp rfl) (apC (NoAt.own hp_b rfl) apN))
  refine WC.seq ?_
  refine WC.seq ?_
  refine WC.region ?_
  refine WL.y rfl (Yld.pure tab_ok rfl) ?_
  refine WL.call rfl rfl (W_pval_printer_full hp_b.rd rfl hp H) ?_
  rintro _ _ ⟨rfl, t17, rfl, H⟩
  refine WL.nil (WX.then_normal ?_)
  refine WC.cond rfl (fun b1 => ?_) (fun b1 => ?_)
  · replace H := H.1 (b1)
    refine WC.ret (WX.then_ret ?_)
    exact WX.ret0 rfl ⟨(GrL.refl _), p_b, A_p_b, c_p_b, rfl, hp, hp_b, (InP.mem (List.Mem.tail _ (List.Mem.head _))), hdj0_1, H⟩
  · replace H := H.2 (b1)
    refine WC.skip (WX.then_normal ?_)
    refine WC.seq ?_
    refine WC.region ?_
    refine WL.y rfl (Yld.pure tab_ok rfl) ?_
    refine WL.nil (WX.then_normal ?_)
    refine WC.block ?_
    refine WC.seq ?_
    refine WC.region ?_
    obtain ⟨h1, H⟩ := H
    refine WL.y rfl (assertNoV (z := .agg ⟨[]⟩) Tryd.underlying111 rfl (fun _ => by kernel_rfl) hv_ rfl (tyP_none h1)) ?_
    refine WL.y rfl (Yld.pure tab_ok rfl) ?_
    refine WL.y rfl (Yld.pure tab_ok rfl) ?_
    refine WL.nil (WX.then_normal ?_)
    refine WC.cond rfl (fun h => by cases h) (fun _ => ?_)
    refine WC.seq ?_
    refine WC.region ?_
    refine WL.y rfl (assertNoV (z := .bool false) Tryd.underlying113 rfl (fun _ => by kernel_rfl) hv_ rfl (tyP_no rfl v_)) ?_
    refine WL.y rfl (Yld.pure tab_ok rfl) ?_
    refine WL.y rfl (Yld.pure tab_ok rfl) ?_
    refine WL.nil (WX.then_normal ?_)
    refine WC.cond rfl (fun h => by cases h) (fun _ => ?_)
    refine WC.seq ?_
    refine WC.region ?_
    rcases PV.intCases v_ with ⟨z, he1⟩ | he1
    · replace H := H.1 z he1
      obtain ⟨a, b, hv1, hN1, one1, one2, hL1⟩ := VR.intOut hv_ he1
      refine WL.y rfl (assertYesV Tryd.underlying116 rfl rfl hv1) ?_
      refine WL.y rfl (Yld.pure tab_ok rfl) ?_
      refine WL.y rfl (Yld.pure tab_ok rfl) ?_
      refine WL.nil (WX.then_normal ?_)
      refine WC.cond rfl (fun _ => ?_) (fun h => by cases h)
      refine WC.seq ?_
      refine WC.region ?_
      refine WL.alloc rfl zero116 (fun g1 w1 hB1 hg1 hl1 => ?_)
      have gr1 := (GrL.of0 (ps := [(some g_p), (blk A_p_b)]) hg1)
      have k1 := hp_b.grown hg1
      have k2 := hp.g0 hg1
      have k3 := hN1.grown hg1
      refine WL.storeW (vs := [a, b]) tab_ok rfl rfl rfl (all1c one1 (all1c one2 all1n)) hB1 rfl rfl (fun w2 hB2 hg2 => ?_)
      have gr2 : GrL [(some g_p), (blk A_p_b)] w w2 := GrL.mod gr1 hg2 (InP.ge (Ge.le (Ge.box hl1) (Nat.le_refl _)))
      have k4 := k1.go hg2 (Dj.new hp_b.lt' (Ge.box hl1))
      have k5 := k2.go hg2 (Dj.new hp.lt' (Ge.box hl1))
      have k6 := Nm.goV k3 hL1 (GrL.of1 hg2) (apC (DnD.one (hv_.inp hap0 (InP.ge (Ge.le (Ge.box hl1) (Nat.le_refl _))))) apN)
      refine WL.nil (WX.then_normal ?_)
      refine WC.region ?_
      refine WL.y rfl (Yld.pure tab_ok rfl) ?_
      refine WL.y rfl (Yld.fa0 (o := 0) (by kernel_rfl) rfl) ?_
      refine WL.y rfl (Yld.bagg (vs := [a, b]) tab_ok hB2 rfl rfl rfl rfl) ?_
      refine WL.call rfl rfl (W_num_Num_Text k6 H) ?_
      rintro _ w3 ⟨hg3, t41, rfl, H⟩
      have gr3 := GrL.add0 gr2 hg3
      have k7 := k4.grown hg3
      have k8 := k5.g0 hg3
      refine WL.lit tab_ok rfl rfl rfl (all1c rfl all1n) rfl (by omega) (fun g2 w4 hB3 hg4 hl2 => ?_)
      have hO1 : Own vs w4 w.heap.size 9 (some ⟨g2, 0, none⟩) 1 ([t41] : List (List UInt8)) := Own.ofBl hB3 (Nat.le_trans (GrL.sizeL gr3) hl2) (by simp [maxLen]) rfl
      have gr4 := GrL.add0 gr3 hg4
      have k9 := k7.grown hg4
      have k10 := k8.g0 hg4
      refine WL.call rfl rfl (W_pval_printer_put k9 rfl k10 hO1.rd rfl hdj0_1 (apC (Dn.of (Dj.new k8.lt' (Ge.box hl2)).symm) (apC (Dn.of (Dj.new k7.lt' (Ge.box hl2)).symm) apN)) H) ?_
      rintro _ w5 ⟨hgl1, p_, A_p_, c_p_, rfl, hB4, hO2, hi1, dj1, H⟩
      have hi2 : InP [(some g_p), (blk A_p_b)] w.heap.size (blk A_p_) := InP.trans hi1 (apC (InP.mem (List.Mem.head _)) (apC (InP.mem (List.Mem.tail _ (List.Mem.head _))) apN)) (GrL.sizeL gr4)
      have gr5 : GrL [(some g_p), (blk A_p_b)] w w5 := GrL.modL gr4 hgl1 (apC (InP.mem (List.Mem.head _)) (apC (InP.mem (List.Mem.tail _ (List.Mem.head _))) apN))
      refine WL.nil (WX.block_normal ?_)
      exact WX.end0 rfl ⟨gr5, p_, A_p_, c_p_, rfl, hB4, hO2, hi2, dj1, H⟩
    · replace H := H.2 he1
      refine WL.y rfl (assertNoV (z := .agg ⟨[.bool false, .slice none 0 0]⟩) Tryd.underlying116 rfl (fun _ => by kernel_rfl) hv_ rfl (tyP_int he1)) ?_
      refine WL.y rfl (Yld.pure tab_ok rfl) ?_
      refine WL.y rfl (Yld.pure tab_ok rfl) ?_
      refine WL.nil (WX.then_normal ?_)
      refine WC.cond rfl (fun h => by cases h) (fun _ => ?_)
      refine WC.seq ?_
      refine WC.region ?_
      refine WL.y rfl (assertNoV (z := vs ([] : List UInt8)) Tryd.underlying117 rfl (fun _ => by kernel_rfl) hv_ rfl (tyP_no rfl v_)) ?_
      refine WL.y rfl (Yld.pure tab_ok rfl) ?_
      refine WL.y rfl (Yld.pure tab_ok rfl) ?_
      refine WL.nil (WX.then_normal ?_)
      refine WC.cond rfl (fun h => by cases h) (fun _ => ?_)
      refine WC.seq ?_
      refine WC.region ?_
      refine WL.y rfl (assertNoI (z := .nilIface) Tryd.underlying120 (fun _ => by kernel_rfl) (by decide +kernel) hv_ rfl) ?_
      refine WL.y rfl (Yld.pure tab_ok rfl) ?_
      refine WL.y rfl (Yld.pure tab_ok rfl) ?_
      refine WL.nil (WX.then_normal ?_)
      refine WC.cond rfl (fun h => by cases h) (fun _ => ?_)
      refine WC.seq ?_
      refine WC.region ?_
      refine WL.y rfl (assertNoI (z := .nilIface) Tryd.underlying122 (fun _ => by kernel_rfl) (by decide +kernel) hv_ rfl) ?_
      refine WL.y rfl (Yld.pure tab_ok rfl) ?_
      refine WL.y rfl (Yld.pure tab_ok rfl) ?_
      refine WL.nil (WX.then_normal ?_)
      refine WC.cond rfl (fun h => by cases h) (fun _ => ?_)
      refine WC.seq ?_
      refine WC.region ?_
      refine WL.y rfl (assertNoI (z := .nilIface) Tryd.underlying125 (fun _ => by kernel_rfl) (by decide +kernel) hv_ rfl) ?_
      refine WL.y rfl (Yld.pure tab_ok rfl) ?_
      refine WL.y rfl (Yld.pure tab_ok rfl) ?_
      refine WL.nil (WX.then_normal ?_)
      refine WC.cond rfl (fun h => by cases h) (fun _ => ?_)
      refine WC.seq ?_
      refine WC.region ?_
      refine WL.y rfl (Yld.pure tab_ok rfl) ?_
      refine WL.nil (WX.then_normal ?_)
      refine WC.region ?_
      refine WL.y rfl (Yld.pure tab_ok rfl) ?_
      refine WL.y rfl (Yld.pure tab_ok rfl) ?_
      refine WL.y rfl (Yld.pure tab_ok rfl) ?_
      refine WL.call rfl rfl (W_pval_printer_parts hp_b rfl hp hv_ hdj0_1 (apC (hv_.inp hap0 (InP.mem (List.Mem.head _))) (apC (hv_.inp hap0 (InP.mem (List.Mem.tail _ (List.Mem.head _)))) apN)) H) ?_
      rintro _ w6 ⟨hgl2, p_2, A_p_2, c_p_2, rfl, hB5, hO3, hi3, dj2, H⟩
      have hi4 : InP [(some g_p), (blk A_p_b)] w.heap.size (blk A_p_2) := InP.trans hi3 (apC (InP.mem (List.Mem.head _)) (apC (InP.mem (List.Mem.tail _ (List.Mem.head _))) apN)) (Nat.le_refl _)
      have gr6 : GrL [(some g_p), (blk A_p_b)] w w6 := GrL.modL (GrL.refl _) hgl2 (apC (InP.mem (List.Mem.head _)) (apC (InP.mem (List.Mem.tail _ (List.Mem.head _))) apN))
      refine WL.nil (WX.block_normal ?_)
      exact WX.end0 rfl ⟨gr6, p_2, A_p_2, c_p_2, rfl, hB5, hO3, hi4, dj2, H⟩

set_option maxHeartbeats 8000000 in
theorem W_val_Repr {w : World} {v_v : OV} {F_v : Nat → Prop} {v_ : PV} {K : (List UInt8) → Prop} (hv_ : RelD deV w [(v_v, F_v)] [v_]) (H : M_val_Repr v_ K) : Fn Tryd.prog 10 ⟨[v_v.1]⟩ w (fun v w' => w.grownBy w' none ∧ ∃ (r : List UInt8), v = vs r ∧ K r) := by
  unfold M_val_Repr at H
  refine Fn.enter (by kernel_rfl) Tryd.func10 rfl Tryd.ntmps10 rfl ?_
  refine WC.seq ?_
  refine WC.region ?_
  refine WL.y rfl (Yld.pure tab_ok rfl) ?_
  refine WL.nil (WX.then_normal ?_)
  refine WC.seq ?_
  refine WC.region ?_
  refine WL.y rfl (Yld.struct (us := [.slice none 0 0]) zero79 places79 rfl rfl) ?_
  refine WL.box (us := [.slice none 0 0]) rfl rfl rfl (fun g1 w1 hB1 hg1 hl1 => ?_)
  have gr1 := hg1
  refine WL.y rfl (Yld.pure tab_ok rfl) ?_
  refine WL.nil (WX.then_normal ?_)
  refine WC.seq ?_
  refine WC.region ?_
  refine WL.y rfl (Yld.pure tab_ok rfl) ?_
  refine WL.y rfl (Yld.pure tab_ok rfl) ?_
  refine WL.call rfl rfl (W_val_printer_reprT ((Own.nil vb w1 w.heap.size 5).base (fun _ _ => Nat.zero_le _)) rfl hB1 (hv_.grown gr1) Dj.nr (apC (hv_.new (Ge.le (Ge.box hl1) (Nat.le_refl _))) (apC (DnD.none hv_) apN)) H) ?_
  rintro _ w2 ⟨hgl1, t5_, A_t5_, c_t5_, rfl, hB2, hO1, hi1, dj1, H⟩
  have hO2 := hO1.base (InP.toGe hi1 (apC (Ge.le (Ge.box hl1) (Nat.le_refl _)) (apC Ge.none apN)) (size_le gr1))
  have gr2 := gr_modL gr1 hgl1 (apC (Ge.le (Ge.box hl1) (Nat.le_refl _)) (apC Ge.none apN))
  refine WL.nil (WX.then_normal ?_)
  refine WC.seq ?_
  refine WC.region ?_
  refine WL.y rfl (Yld.pure tab_ok rfl) ?_
  refine WL.y rfl (Yld.pure tab_ok rfl) ?_
  refine WL.y rfl (Yld.pure tab_ok rfl) ?_
  refine WL.y rfl (Yld.bload tab_ok hB2 rfl rfl rfl) ?_
  refine WL.y rfl (Yld.b2s tab_ok hO2.rd rfl rfl rfl rfl rfl) ?_
  refine WL.y rfl (Yld.pure tab_ok rfl) ?_
  refine WL.nil (WX.then_normal ?_)
  refine WC.ret ?_
  exact WX.ret1 rfl rfl ⟨gr2, t5_, rfl, H⟩

set_option maxHeartbeats 8000000 in
theorem W_val_weight {w : World} {v_v : OV} {F_v : Nat → Prop} {v_ : PV} {most : Int} {K : Int → Prop} (hv_ : RelD deV w [(v_v, F_v)] [v_]) (H : M_val_weight v_ most K) : Fn Tryd.prog 59 ⟨[v_v.1, .int .i64 most]⟩ w (fun v w' => w.grownBy w' none ∧ ∃ (r : Int), v = .int .i64 r ∧ K r) := by
  unfold M_val_weight at H
  refine Fn.enter (by kernel_rfl) Tryd.func59 rfl Tryd.ntmps59 rfl ?_
  refine WC.seq ?_
  refine WC.region ?_
  refine WL.y rfl (Yld.pure tab_ok rfl) ?_
  refine WL.nil (WX.then_normal ?_)
  refine WC.seq ?_
  refine WC.region ?_
  refine WL.y rfl (Yld.pure tab_ok rfl) ?_
  refine WL.nil (WX.then_normal ?_)
  refine WC.seq ?_
  obtain ⟨J1, H, hJ1⟩ := H
  refine WC.midF (fun L' w' => ∃ (l : List PV), ∃ (A_l : Option Addr), ∃ (c_l : Nat), ∃ (n_l : Nat), ∃ (hs_l : List VH), L' = [(1, .int .i64 most), (5, .slice A_l n_l c_l)] ∧ J1 l ∧ n_l = l.length ∧ w = w' ∧ Rd vv w' A_l c_l hs_l ∧ RelD deV w' hs_l l ∧ OrD (fun p => DnD deV [(v_v, F_v)] [v_] p) deV hs_l l w.heap.size) ?_ (fun hQ => ?_)
  · clear H
    rintro _ _ ⟨l, A_l, c_l, n_l, hs_l, rfl, H, rfl, rfl, k1, k2, or1⟩
    replace H := hJ1 l H
    refine WX.then_normal ?_
    refine WC.seq ?_
    refine WC.region ?_
    refine WL.y rfl (Yld.pure tab_ok rfl) ?_
    refine WL.nil (WX.then_normal ?_)
    refine WC.seq ?_
    refine WC.seq ?_
    refine WC.region ?_
    refine WL.y rfl (Yld.pure tab_ok rfl) ?_
    refine WL.y rfl (Yld.pure tab_ok rfl) ?_
    refine WL.y rfl (Yld.pure tab_ok rfl) ?_
    refine WL.nil (WX.then_normal ?_)
    refine WC.block ?_
    obtain ⟨I1, mu1, h0_1, HR1⟩ := H
    refine WC.loopF (fun n' L' w' => ∃ (n : Int), ∃ (t63 : Int), n' = mu1 n t63 ∧ L' = [(1, .int .i64 most), (12, .int .i64 n), (61, .slice A_l l.length c_l), (62, .int .i64 (l.length : Int)), (63, .int .i64 t63)] ∧ I1 n t63 ∧ w.grownBy w' none ∧ Rd vv w' A_l c_l hs_l ∧ RelD deV w' hs_l l ∧ OrD (fun p => DnD deV [(v_v, F_v)] [v_] p) deV hs_l l w.heap.size) _ _ ⟨(1 : Int), (0 : Int), rfl, rfl, h0_1, (gr_refl _ _), k1, k2, or1⟩ (by repeat (first | exact Sub.nil | refine Sub.cons rfl ?_)) ?_
    clear h0_1
    rintro _ _ w1 ⟨n, t63, rfl, rfl, hI1, gr1, k3, k4, or2⟩
    have H := HR1 n t63 hI1
    refine WC.seq ?_
    refine WC.region ?_
    refine WL.y rfl (Yld.pure tab_ok rfl) ?_
    refine WL.nil (WX.then_normal ?_)
    refine WC.seq ?_
    refine WC.cond rfl (fun b1 => ?_) (fun b1 => ?_)
    · replace H := H.1 (of_decide_eq_true b1)
      refine WC.skip (WX.then_normal ?_)
      refine WC.seq ?_
      refine WC.block ?_
      refine WC.seq ?_
      refine WC.region ?_
      obtain ⟨h1, H⟩ := H
      refine WL.y rfl (Yld.iaddrW tab_ok k3 rfl rfl k2.1.symm rfl h1.1 h1.2) ?_
      obtain ⟨⟨v_el, F_el⟩, eh1, hR1⟩ := RelD.at k4 vh0 PV.nil (j := t63.toNat) (Nat.lt_of_lt_of_eq (iltN h1 k2.1.symm) k4.1)
      have hv1 : RelD deV w1 [(v_el, F_el)] [l.getD t63.toNat PV.nil] := RelD.cons hR1 RelD.nil
      refine WL.y rfl (Yld.to (v := v_el.1) (Yld.iload vh0 tab_ok k3 rfl rfl (iltN h1 k2.1.symm)) (congrArg vv eh1)) ?_
      refine WL.y rfl (Yld.pure tab_ok rfl) ?_
      refine WL.nil (WX.then_normal ?_)
      refine WC.seq ?_
      refine WC.seq ?_
      refine WC.region ?_
      refine WL.y rfl (Yld.pure tab_ok rfl) ?_
      refine WL.y rfl (Yld.pure tab_ok rfl) ?_
      refine WL.y rfl (Yld.pure tab_ok rfl) ?_
      refine WL.nil (WX.then_normal ?_)
      refine WC.cond rfl (fun b2 => ?_) (fun b2 => ?_)
      · replace H := H.1 (of_decide_eq_true b2)
        refine WC.seq ?_
        refine WC.region ?_
        refine WL.y rfl (Yld.pure tab_ok rfl) ?_
        refine WL.y rfl (Yld.pure tab_ok rfl) ?_
        refine WL.nil (WX.then_normal ?_)
        refine WC.ret (WX.then_ret (WX.block_ret (WX.then_ret (WX.then_ret (WX.block_ret (WX.then_ret ?_))))))
        exact WX.ret1 rfl rfl ⟨gr1, n, rfl, H⟩
      · replace H := H.2 (of_decide_eq_false b2)
        refine WC.skip (WX.then_normal ?_)
        refine WC.region ?_
        refine WL.y rfl (Yld.pure tab_ok rfl) ?_
        refine WL.y rfl (Yld.pure tab_ok rfl) ?_
        refine WL.y rfl (Yld.pure tab_ok rfl) ?_
        refine WL.y rfl (Yld.pure tab_ok rfl) ?_
        obtain ⟨h2, H⟩ := H
        refine WL.y rfl (Yld.sub rfl rfl h2) ?_
        exact False.elim H
    · replace H := H.2 (of_decide_eq_false b1)
      refine WC.exit (WX.then_exit (WX.then_exit (WX.block_same (WX.then_normal ?_))))
      refine WC.seq ?_
      refine WC.region ?_
      refine WL.y rfl (Yld.pure tab_ok rfl) ?_
      refine WL.y rfl (Yld.pure tab_ok rfl) ?_
      refine WL.nil (WX.then_normal ?_)
      refine WC.ret ?_
      exact WX.ret1 rfl rfl ⟨gr1, n, rfl, H⟩
  · clear hJ1
    refine WC.seq ?_
    refine WC.region ?_
    refine WL.y rfl (Yld.pure tab_ok rfl) ?_
    refine WL.nil (WX.then_normal ?_)
    refine WC.block ?_
    refine WC.seq ?_
    refine WC.region ?_
    rcases PV.empCases v_ with he1 | he1
    · replace H := H.1 he1
      obtain ⟨g_l, A_l2, c_l2, hv2, hB1, hR2, hr1, hd1⟩ := VR.empOut hv_ he1
      refine WL.y rfl (assertYesV Tryd.underlying85 rfl rfl hv2) ?_
      refine WL.y rfl (Yld.pure tab_ok rfl) ?_
      refine WL.y rfl (Yld.pure tab_ok rfl) ?_
      refine WL.nil (WX.then_normal ?_)
      refine WC.cond rfl (fun _ => ?_) (fun h => by cases h)
      refine WC.seq ?_
      refine WC.region ?_
      refine WL.y rfl (Yld.pure tab_ok rfl) ?_
      refine WL.nil (WX.then_normal ?_)
      refine WC.region ?_
      refine WL.y rfl (Yld.pure tab_ok rfl) ?_
      refine WL.y rfl (Yld.pure tab_ok rfl) ?_
      refine WL.y rfl (Yld.fa0 (o := 0) (by kernel_rfl) rfl) ?_
      refine WL.y rfl (Yld.bload tab_ok hB1 rfl rfl rfl) ?_
      refine WL.y rfl (Yld.pure tab_ok rfl) ?_
      refine WL.nil (WX.block_normal ?_)
      exact WX.weaken (by repeat (first | exact Sub.nil | refine Sub.cons rfl ?_)) (hQ _ _ ⟨([] : List PV), A_l2, c_l2, (([] : List PV)).length, ([] : List VH), rfl, H, rfl, rfl, hR2, hr1, (fun p_ hp_ q_ => DnD.nil (d := deV))⟩)
    · replace H := H.2 he1
      refine WL.y rfl (assertNoV (z := .pointer none) Tryd.underlying85 rfl (fun _ => by kernel_rfl) hv_ rfl (tyP_emp he1)) ?_
      refine WL.y rfl (Yld.pure tab_ok rfl) ?_
      refine WL.y rfl (Yld.pure tab_ok rfl) ?_
      refine WL.nil (WX.then_normal ?_)
      refine WC.cond rfl (fun h => by cases h) (fun _ => ?_)
      refine WC.seq ?_
      refine WC.region ?_
      rcases PV.tupCases v_ with ⟨l2, he2⟩ | he2
      · replace H := H.1 l2 he2
        obtain ⟨g_t, A_t, c_t, hs_t, hv3, hB2, hR3, hr2, hd2, hd3, hd4⟩ := VR.tupOut hv_ he2
        refine WL.y rfl (assertYesV Tryd.underlying92 rfl rfl hv3) ?_
        refine WL.y rfl (Yld.pure tab_ok rfl) ?_
        refine WL.y rfl (Yld.pure tab_ok rfl) ?_
        refine WL.nil (WX.then_normal ?_)
        refine WC.cond rfl (fun _ => ?_) (fun h => by cases h)
        refine WC.seq ?_
        refine WC.region ?_
        refine WL.y rfl (Yld.pure tab_ok rfl) ?_
        refine WL.nil (WX.then_normal ?_)
        refine WC.region ?_
        refine WL.y rfl (Yld.pure tab_ok rfl) ?_
        refine WL.y rfl (Yld.pure tab_ok rfl) ?_
        refine WL.y rfl (Yld.fa0 (o := 0) (by kernel_rfl) rfl) ?_
        refine WL.y rfl (Yld.bload tab_ok hB2 rfl rfl rfl) ?_
        refine WL.y rfl (Yld.pure tab_ok rfl) ?_
        refine WL.nil (WX.block_normal ?_)
        exact WX.weaken (by repeat (first | exact Sub.nil | refine Sub.cons rfl ?_)) (hQ _ _ ⟨l2.map PV.int, A_t, c_t, (l2.map PV.int).length, hs_t, rfl, H, rfl, rfl, hR3, hr2, (fun p_ hp_ q_ => hd4 _ (q_))⟩)
      · replace H := H.2 he2
        refine WL.y rfl (assertNoV (z := .pointer none) Tryd.underlying92 rfl (fun _ => by kernel_rfl) hv_ rfl (tyP_tup he2)) ?_
        refine WL.y rfl (Yld.pure tab_ok rfl) ?_
        refine WL.y rfl (Yld.pure tab_ok rfl) ?_
        refine WL.nil (WX.then_normal ?_)
        refine WC.cond rfl (fun h => by cases h) (fun _ => ?_)
        refine WC.seq ?_
        refine WC.region ?_
        refine WL.y rfl (assertNoV (z := .pointer none) Tryd.underlying159 rfl (fun _ => by kernel_rfl) hv_ rfl (tyP_no rfl v_)) ?_
        refine WL.y rfl (Yld.pure tab_ok rfl) ?_
        refine WL.y rfl (Yld.pure tab_ok rfl) ?_
        refine WL.nil (WX.then_normal ?_)
        refine WC.cond rfl (fun h => by cases h) (fun _ => ?_)
        refine WC.seq ?_
        refine WC.region ?_
        refine WL.y rfl (assertNoV (z := .pointer none) Tryd.underlying139 rfl (fun _ => by kernel_rfl) hv_ rfl (tyP_no rfl v_)) ?_
        refine WL.y rfl (Yld.pure tab_ok rfl) ?_
        refine WL.y rfl (Yld.pure tab_ok rfl) ?_
        refine WL.nil (WX.then_normal ?_)
        refine WC.cond rfl (fun h => by cases h) (fun _ => ?_)
        refine WC.skip (WX.block_normal ?_)
        exact WX.weaken (by repeat (first | exact Sub.nil | refine Sub.cons rfl ?_)) (hQ _ _ ⟨[], none, 0, 0, [], rfl, H, rfl, rfl, (Own.nil vv w w.heap.size 41).rd, (RelD.nil (d := deV) (w := w)), (fun p_ hp_ q_ => (DnD.nil (d := deV)))⟩)

set_option maxHeartbeats 8000000 in
theorem W_val_weightT {w : World} {v_v : OV} {F_v : Nat → Prop} {v_ : PV} {most : Int} {K : Int → Prop} (hv_ : RelD deV w [(v_v, F_v)] [v_]) (H : M_val_weightT v_ most K) : Fn Tryd.prog 59 ⟨[v_v.1, .int .i64 most]⟩ w (fun v w' => w.grownBy w' none ∧ ∃ (r : Int), v = .int .i64 r ∧ K r) := by
  unfold M_val_weightT at H
  refine Fn.enter (by kernel_rfl) Tryd.func59 rfl Tryd.ntmps59 rfl ?_
  refine WC.seq ?_
  refine WC.region ?_
  refine WL.y rfl (Yld.pure tab_ok rfl) ?_
  refine WL.nil (WX.then_normal ?_)
  refine WC.seq ?_
  refine WC.region ?_
  refine WL.y rfl (Yld.pure tab_ok rfl) ?_
  refine WL.nil (WX.then_normal ?_)
  refine WC.seq ?_
  obtain ⟨J1, H, hJ1⟩ := H
  refine WC.midF (fun L' w' => ∃ (l : List PV), ∃ (A_l : Option Addr), ∃ (c_l : Nat), ∃ (n_l : Nat), ∃ (hs_l : List VH), L' = [(1, .int .i64 most), (5, .slice A_l n_l c_l)] ∧ J1 l ∧ n_l = l.length ∧ w = w' ∧ Rd vv w' A_l c_l hs_l ∧ RelD deV w' hs_l l ∧ OrD (fun p => DnD deV [(v_v, F_v)] [v_] p) deV hs_l l w.heap.size) ?_ (fun hQ => ?_)
  · clear H
    rintro _ _ ⟨l, A_l, c_l, n_l, hs_l, rfl, H, rfl, rfl, k1, k2, or1⟩
    replace H := hJ1 l H
    refine WX.then_normal ?_
    refine WC.seq ?_
    refine WC.region ?_
    refine WL.y rfl (Yld.pure tab_ok rfl) ?_
    refine WL.nil (WX.then_normal ?_)
    refine WC.seq ?_
    refine WC.seq ?_
    refine WC.region ?_
    refine WL.y rfl (Yld.pure tab_ok rfl) ?_
    refine WL.y rfl (Yld.pure tab_ok rfl) ?_
    refine WL.y rfl (Yld.pure tab_ok rfl) ?_
    refine WL.nil (WX.then_normal ?_)
    refine WC.block ?_
    obtain ⟨I1, mu1, h0_1, HR1⟩ := H
    refine WC.loopF (fun n' L' w' => ∃ (n : Int), ∃ (t63 : Int), n' = mu1 n t63 ∧ L' = [(1, .int .i64 most), (12, .int .i64 n), (61, .slice A_l l.length c_l), (62, .int .i64 (l.length : Int)), (63, .int .i64 t63)] ∧ I1 n t63 ∧ w.grownBy w' none ∧ Rd vv w' A_l c_l hs_l ∧ RelD deV w' hs_l l ∧ OrD (fun p => DnD deV [(v_v, F_v)] [v_] p) deV hs_l l w.heap.size) _ _ ⟨(1 : Int), (0 : Int), rfl, rfl, h0_1, (gr_refl _ _), k1, k2, or1⟩ (by repeat (first | exact Sub.nil | refine Sub.cons rfl ?_)) ?_
    clear h0_1
    rintro _ _ w1 ⟨n, t63, rfl, rfl, hI1, gr1, k3, k4, or2⟩
    have H := HR1 n t63 hI1
    refine WC.seq ?_
    refine WC.region ?_
    refine WL.y rfl (Yld.pure tab_ok rfl) ?_
    refine WL.nil (WX.then_normal ?_)
    refine WC.seq ?_
    refine WC.cond rfl (fun b1 => ?_) (fun b1 => ?_)
    · replace H := H.1 (of_decide_eq_true b1)
      refine WC.skip (WX.then_normal ?_)
      refine WC.seq ?_
      refine WC.block ?_
      refine WC.seq ?_
      refine WC.region ?_
      obtain ⟨h1, H⟩ := H
      refine WL.y rfl (Yld.iaddrW tab_ok k3 rfl rfl k2.1.symm rfl h1.1 h1.2) ?_
      obtain ⟨⟨v_el, F_el⟩, eh1, hR1⟩ := RelD.at k4 vh0 PV.nil (j := t63.toNat) (Nat.lt_of_lt_of_eq (iltN h1 k2.1.symm) k4.1)
      have hv1 : RelD deV w1 [(v_el, F_el)] [l.getD t63.toNat PV.nil] := RelD.cons hR1 RelD.nil
      refine WL.y rfl (Yld.to (v := v_el.1) (Yld.iload vh0 tab_ok k3 rfl rfl (iltN h1 k2.1.symm)) (congrArg vv eh1)) ?_
      refine WL.y rfl (Yld.pure tab_ok rfl) ?_
      refine WL.nil (WX.then_normal ?_)
      refine WC.seq ?_
      refine WC.seq ?_
      refine WC.region ?_
      refine WL.y rfl (Yld.pure tab_ok rfl) ?_
      refine WL.y rfl (Yld.pure tab_ok rfl) ?_
      refine WL.y rfl (Yld.pure tab_ok rfl) ?_
      refine WL.nil (WX.then_normal ?_)
      refine WC.cond rfl (fun b2 => ?_) (fun b2 => ?_)
      · replace H := H.1 (of_decide_eq_true b2)
        refine WC.seq ?_
        refine WC.region ?_
        refine WL.y rfl (Yld.pure tab_ok rfl) ?_
        refine WL.y rfl (Yld.pure tab_ok rfl) ?_
        refine WL.nil (WX.then_normal ?_)
        refine WC.ret (WX.then_ret (WX.block_ret (WX.then_ret (WX.then_ret (WX.block_ret (WX.then_ret ?_))))))
        exact WX.ret1 rfl rfl ⟨gr1, n, rfl, H⟩
      · replace H := H.2 (of_decide_eq_false b2)
        refine WC.skip (WX.then_normal ?_)
        refine WC.region ?_
        refine WL.y rfl (Yld.pure tab_ok rfl) ?_
        refine WL.y rfl (Yld.pure tab_ok rfl) ?_
        refine WL.y rfl (Yld.pure tab_ok rfl) ?_
        refine WL.y rfl (Yld.pure tab_ok rfl) ?_
        obtain ⟨h2, H⟩ := H
        refine WL.y rfl (Yld.sub rfl rfl h2) ?_
        refine WL.call rfl rfl (W_val_weight hv1 H) ?_
        rintro _ w2 ⟨hg1, t76, rfl, H⟩
        have gr2 := gr_trans gr1 hg1
        have k5 := k3.grown hg1
        have k6 := k4.grown hg1
        obtain ⟨h3, H⟩ := H
        refine WL.y rfl (Yld.add rfl rfl h3) ?_
        refine WL.y rfl (Yld.pure tab_ok rfl) ?_
        refine WL.nil (WX.block_normal (WX.then_normal ?_))
        refine WC.region ?_
        obtain ⟨h4, H⟩ := H
        refine WL.y rfl (Yld.add rfl rfl h4) ?_
        refine WL.y rfl (Yld.pure tab_ok rfl) ?_
        refine WL.nil ?_
        exact WX.roundF _ ⟨n + t76, t63 + (1 : Int), rfl, rfl, H.1, gr2, k5, k6, or2⟩ (by repeat (first | exact Sub.nil | refine Sub.cons rfl ?_)) H.2
    · replace H := H.2 (of_decide_eq_false b1)
      refine WC.exit (WX.then_exit (WX.then_exit (WX.block_same (WX.then_normal ?_))))
      refine WC.seq ?_
      refine WC.region ?_
      refine WL.y rfl (Yld.pure tab_ok rfl) ?_
      refine WL.y rfl (Yld.pure tab_ok rfl) ?_
      refine WL.nil (WX.then_normal ?_)
      refine WC.ret ?_
      exact WX.ret1 rfl rfl ⟨gr1, n, rfl, H⟩
  · clear hJ1
    refine WC.seq ?_
    refine WC.region ?_
    refine WL.y rfl (Yld.pure tab_ok rfl) ?_
    refine WL.nil (WX.then_normal ?_)
    refine WC.block ?_
    refine WC.seq ?_
    refine WC.region ?_
    rcases PV.empCases v_ with he1 | he1
    · replace H := H.1 he1
      obtain ⟨g_l, A_l2, c_l2, hv2, hB1, hR2, hr1, hd1⟩ := VR.empOut hv_ he1
      refine WL.y rfl (assertYesV Tryd.underlying85 rfl rfl hv2) ?_
      refine WL.y rfl (Yld.pure tab_ok rfl) ?_
      refine WL.y rfl (Yld.pure tab_ok rfl) ?_
      refine WL.nil (WX.then_normal ?_)
      refine WC.cond rfl (fun _ => ?_) (fun h => by cases h)
      refine WC.seq ?_
      refine WC.region ?_
      refine WL.y rfl (Yld.pure tab_ok rfl) ?_
      refine WL.nil (WX.then_normal ?_)
      refine WC.region ?_
      refine WL.y rfl (Yld.pure tab_ok rfl) ?_
      refine WL.y rfl (Yld.pure tab_ok rfl) ?_
      refine WL.y rfl (Yld.fa0 (o := 0) (by kernel_rfl) rfl) ?_
      refine WL.y rfl (Yld.bload tab_ok hB1 rfl rfl rfl) ?_
      refine WL.y rfl (Yld.pure tab_ok rfl) ?_
      refine WL.nil (WX.block_normal ?_)
      exact WX.weaken (by repeat (first | exact Sub.nil | refine Sub.cons rfl ?_)) (hQ _ _ ⟨([] : List PV), A_l2, c_l2, (([] : List PV)).length, ([] : List VH), rfl, H, rfl, rfl, hR2, hr1, (fun p_ hp_ q_ => DnD.nil (d := deV))⟩)
    · replace H := H.2 he1
      refine WL.y rfl (assertNoV (z := .pointer none) Tryd.underlying85 rfl (fun _ => by kernel_rfl) hv_ rfl (tyP_emp he1)) ?_
      refine WL.y rfl (Yld.pure tab_ok rfl) ?_
      refine WL.y rfl (Yld.pure tab_ok rfl) ?_
      refine WL.nil (WX.then_normal ?_)
      refine WC.cond rfl (fun h => by cases h) (fun _ => ?_)
      refine WC.seq ?_
      refine WC.region ?_
      rcases PV.tupCases v_ with ⟨l2, he2⟩ | he2
      · replace H := H.1 l2 he2
        obtain ⟨g_t, A_t, c_t, hs_t, hv3, hB2, hR3, hr2, hd2, hd3, hd4⟩ := VR.tupOut hv_ he2
        refine WL.y rfl (assertYesV Tryd.underlying92 rfl rfl hv3) ?_
        refine WL.y rfl (Yld.pure tab_ok rfl) ?_
        refine WL.y rfl (Yld.pure tab_ok rfl) ?_
        refine WL.nil (WX.then_normal ?_)
        refine WC.cond rfl (fun _ => ?_) (fun h => by cases h)
        refine WC.seq ?_
        refine WC.region ?_
        refine WL.y rfl (Yld.pure tab_ok rfl) ?_
        refine WL.nil (WX.then_normal ?_)
        refine WC.region ?_
        refine WL.y rfl (Yld.pure tab_ok rfl) ?_
        refine WL.y rfl (Yld.pure tab_ok rfl) ?_
        refine WL.y rfl (Yld.fa0 (o := 0) (by kernel_rfl) rfl) ?_
        refine WL.y rfl (Yld.bload tab_ok hB2 rfl rfl rfl) ?_
        refine WL.y rfl (Yld.pure tab_ok rfl) ?_
        refine WL.nil (WX.block_normal ?_)
        exact WX.weaken (by repeat (first | exact Sub.nil | refine Sub.cons rfl ?_)) (hQ _ _ ⟨l2.map PV.int, A_t, c_t, (l2.map PV.int).length, hs_t, rfl, H, rfl, rfl, hR3, hr2, (fun p_ hp_ q_ => hd4 _ (q_))⟩)
      · replace H := H.2 he2
        refine WL.y rfl (assertNoV (z := .pointer none) Tryd.underlying92 rfl (fun _ => by kernel_rfl) hv_ rfl (tyP_tup he2)) ?_
        refine WL.y rfl (Yld.pure tab_ok rfl) ?_
        refine WL.y rfl (Yld.pure tab_ok rfl) ?_
        refine WL.nil (WX.then_normal ?_)
        refine WC.cond rfl (fun h => by cases h) (fun _ => ?_)
        refine WC.seq ?_
        refine WC.region ?_
        refine WL.y rfl (assertNoV (z := .pointer none) Tryd.underlying159 rfl (fun _ => by kernel_rfl) hv_ rfl (tyP_no rfl v_)) ?_
        refine WL.y rfl (Yld.pure tab_ok rfl) ?_
        refine WL.y rfl (Yld.pure tab_ok rfl) ?_
        refine WL.nil (WX.then_normal ?_)
        refine WC.cond rfl (fun h => by cases h) (fun _ => ?_)
        refine WC.seq ?_
        refine WC.region ?_
        refine WL.y rfl (assertNoV (z := .pointer none) Tryd.underlying139 rfl (fun _ => by kernel_rfl) hv_ rfl (tyP_no rfl v_)) ?_
        refine WL.y rfl (Yld.pure tab_ok rfl) ?_
        refine WL.y rfl (Yld.pure tab_ok rfl) ?_
        refine WL.nil (WX.then_normal ?_)
        refine WC.cond rfl (fun h => by cases h) (fun _ => ?_)
        refine WC.skip (WX.block_normal ?_)
        exact WX.weaken (by repeat (first | exact Sub.nil | refine Sub.cons rfl ?_)) (hQ _ _ ⟨[], none, 0, 0, [], rfl, H, rfl, rfl, (Own.nil vv w w.heap.size 41).rd, (RelD.nil (d := deV) (w := w)), (fun p_ hp_ q_ => (DnD.nil (d := deV)))⟩)

set_option maxHeartbeats 8000000 in
theorem W_val_Light {w : World} {most : Int} {l : List PV} {A_l : Option Addr} {c_l : Nat} {hs_l : List VH} {n_l : Nat} {K : Bool → Prop} (hl : Rd vv w A_l c_l hs_l) (hn_l : n_l = l.length) (hr_l : RelD deV w hs_l l) (H : M_val_Light most l K) : Fn Tryd.prog 37 ⟨[.int .i64 most, .slice A_l n_l c_l]⟩ w (fun v w' => w.grownBy w' none ∧ ∃ (r : Bool), v = .bool r ∧ K r) := by
  subst hn_l
  unfold M_val_Light at H
  refine Fn.enter (by kernel_rfl) Tryd.func37 rfl Tryd.ntmps37 rfl ?_
  replace H := H (by rw [← hr_l.1]; exact Nat.le_trans hl.cap hl.max)
  refine WC.seq ?_
  refine WC.region ?_
  refine WL.y rfl (Yld.pure tab_ok rfl) ?_
  refine WL.nil (WX.then_normal ?_)
  refine WC.seq ?_
  refine WC.seq ?_
  refine WC.region ?_
  refine WL.y rfl (Yld.pure tab_ok rfl) ?_
  refine WL.y rfl (Yld.pure tab_ok rfl) ?_
  refine WL.y rfl (Yld.pure tab_ok rfl) ?_
  refine WL.nil (WX.then_normal ?_)
  refine WC.block ?_
  obtain ⟨I1, mu1, h0_1, HR1⟩ := H
  refine WC.loopF (fun n' L' w' => ∃ (most2 : Int), ∃ (t9 : Int), n' = mu1 most2 t9 ∧ L' = [(0, .int .i64 most2), (7, .slice A_l l.length c_l), (8, .int .i64 (l.length : Int)), (9, .int .i64 t9)] ∧ I1 most2 t9 ∧ w.grownBy w' none) _ _ ⟨most, (0 : Int), rfl, rfl, h0_1, (gr_refl _ _)⟩ (by repeat (first | exact Sub.nil | refine Sub.cons rfl ?_)) ?_
  clear h0_1
  rintro _ _ w1 ⟨most2, t9, rfl, rfl, hI1, gr1⟩
  have H := HR1 most2 t9 hI1
  refine WC.seq ?_
  refine WC.region ?_
  refine WL.y rfl (Yld.pure tab_ok rfl) ?_
  refine WL.nil (WX.then_normal ?_)
  refine WC.seq ?_
  refine WC.cond rfl (fun b1 => ?_) (fun b1 => ?_)
  · replace H := H.1 (of_decide_eq_true b1)
    refine WC.skip (WX.then_normal ?_)
    refine WC.seq ?_
    refine WC.block ?_
    refine WC.seq ?_
    refine WC.region ?_
    obtain ⟨h1, H⟩ := H
    refine WL.y rfl (Yld.iaddrW tab_ok (hl.grown gr1) rfl rfl hr_l.1.symm rfl h1.1 h1.2) ?_
    obtain ⟨⟨v_el, F_el⟩, eh1, hR1⟩ := RelD.at (hr_l.grown gr1) vh0 PV.nil (j := t9.toNat) (Nat.lt_of_lt_of_eq (iltN h1 hr_l.1.symm) (hr_l.grown gr1).1)
    have hv1 : RelD deV w1 [(v_el, F_el)] [l.getD t9.toNat PV.nil] := RelD.cons hR1 RelD.nil
    refine WL.y rfl (Yld.to (v := v_el.1) (Yld.iload vh0 tab_ok (hl.grown gr1) rfl rfl (iltN h1 hr_l.1.symm)) (congrArg vv eh1)) ?_
    refine WL.y rfl (Yld.pure tab_ok rfl) ?_
    refine WL.nil (WX.then_normal ?_)
    refine WC.seq ?_
    refine WC.region ?_
    refine WL.y rfl (Yld.pure tab_ok rfl) ?_
    refine WL.y rfl (Yld.pure tab_ok rfl) ?_
    refine WL.y rfl (Yld.pure tab_ok rfl) ?_
    refine WL.call rfl rfl (W_val_weightT hv1 H) ?_
    rintro _ w2 ⟨hg1, t16, rfl, H⟩
    have gr2 := gr_trans gr1 hg1
    obtain ⟨h2, H⟩ := H
    refine WL.y rfl (Yld.sub rfl rfl h2) ?_
    refine WL.y rfl (Yld.pure tab_ok rfl) ?_
    refine WL.nil (WX.then_normal ?_)
    refine WC.seq ?_
    refine WC.region ?_
    refine WL.y rfl (Yld.pure tab_ok rfl) ?_
    refine WL.y rfl (Yld.pure tab_ok rfl) ?_
    refine WL.nil (WX.then_normal ?_)
    refine WC.cond rfl (fun b2 => ?_) (fun b2 => ?_)
    · replace H := H.1 (of_decide_eq_true b2)
      refine WC.seq ?_
      refine WC.region ?_
      refine WL.y rfl (Yld.pure tab_ok rfl) ?_
      refine WL.nil (WX.then_normal ?_)
      refine WC.ret (WX.block_ret (WX.then_ret (WX.then_ret (WX.block_ret (WX.then_ret ?_)))))
      exact WX.ret1 rfl rfl ⟨gr2, false, rfl, H⟩
    · replace H := H.2 (of_decide_eq_false b2)
      refine WC.skip (WX.block_normal (WX.then_normal ?_))
      refine WC.region ?_
      obtain ⟨h3, H⟩ := H
      refine WL.y rfl (Yld.add rfl rfl h3) ?_
      refine WL.y rfl (Yld.pure tab_ok rfl) ?_
      refine WL.nil ?_
      exact WX.roundF _ ⟨most2 - t16, t9 + (1 : Int), rfl, rfl, H.1, gr2⟩ (by repeat (first | exact Sub.nil | refine Sub.cons rfl ?_)) H.2
  · replace H := H.2 (of_decide_eq_false b1)
    refine WC.exit (WX.then_exit (WX.then_exit (WX.block_same (WX.then_normal ?_))))
    refine WC.seq ?_
    refine WC.region ?_
    refine WL.y rfl (Yld.pure tab_ok rfl) ?_
    refine WL.nil (WX.then_normal ?_)
    refine WC.ret ?_
    exact WX.ret1 rfl rfl ⟨gr1, true, rfl, H⟩

set_option maxHeartbeats 8000000 in
theorem W_slices_Clone_val_Value_val_Value {w : World} {s : List PV} {A_s : Option Addr} {c_s : Nat} {hs_s : List VH} {n_s : Nat} {K : (List PV) → Prop} (hs : Rd vv w A_s c_s hs_s) (hn_s : n_s = s.length) (hr_s : RelD deV w hs_s s) (H : M_slices_Clone_val_Value_val_Value s K) : Fn Tryd.prog 35 ⟨[.slice A_s n_s c_s]⟩ w (fun v w' => w.grownBy w' none ∧ ∃ (r : List PV), ∃ (A_r : Option Addr), ∃ (c_r : Nat), ∃ (hs_r : List VH), v = .slice A_r r.length c_r ∧ Own vv w' w.heap.size 41 A_r c_r hs_r ∧ RelD deV w' hs_r r ∧ (∀ p : Option Nat, Lt p w.heap.size → DnD deV hs_s s p → DnD deV hs_r r p) ∧ DnD deV hs_r r (blk A_r) ∧ K r) := by
  subst hn_s
  unfold M_slices_Clone_val_Value_val_Value at H
  refine Fn.enter (by kernel_rfl) Tryd.func35 rfl Tryd.ntmps35 rfl ?_
  replace H := H (by rw [← hr_s.1]; exact Nat.le_trans hs.cap hs.max)
  refine WC.seq ?_
  refine WC.region ?_
  refine WL.y rfl (Yld.pure tab_ok rfl) ?_
  refine WL.nil (WX.then_normal ?_)
  refine WC.seq ?_
  refine WC.seq ?_
  refine WC.region ?_
  refine WL.y rfl (Yld.pure tab_ok rfl) ?_
  refine WL.y rfl (Yld.sleqnil Tryd.underlying32 rfl) ?_
  refine WL.nil (WX.then_normal ?_)
  refine WC.cond rfl (fun b1 => ?_) (fun b1 => ?_)
  · replace H := H.1 (RelD.nilx hr_s (hs.nil_of b1))
    refine WC.seq ?_
    refine WC.region ?_
    refine WL.y rfl (Yld.pure tab_ok rfl) ?_
    refine WL.nil (WX.then_normal ?_)
    refine WC.ret (WX.then_ret ?_)
    exact WX.ret1 rfl rfl ⟨(gr_refl _ _), [], none, 0, [], rfl, (Own.nil vv w w.heap.size 41), (RelD.nil (d := deV) (w := w)), (fun p_ hp_ v0_ => have q_ := v0_; (DnD.nil (d := deV))), DnD.nil, H⟩
  · replace H := H.2
    refine WC.skip (WX.then_normal ?_)
    refine WC.seq ?_
    refine WC.region ?_
    refine WL.lit (us := []) tab_ok rfl rfl rfl all1n rfl (by omega) (fun g2 w2 hB2 hg2 hl2 => ?_)
    have hO2 : Own vv w2 w.heap.size 41 (some ⟨g2, 0, none⟩) 0 ([] : List VH) := Own.ofBl hB2 (Nat.le_trans (Nat.le_refl _) hl2) (by simp [maxLen]) rfl
    have gr1 := hg2
    have hr1 : RelD deV w2 ([] : List VH) ([] : List PV) := RelD.nil
    have nd1 : OrD (fun p => DnD deV hs_s s p) deV ([] : List VH) ([] : List PV) w.heap.size := (fun _ _ _ => DnD.nil)
    have dj1 : DnD deV ([] : List VH) ([] : List PV) (blk (some ⟨g2, 0, none⟩)) := DnD.nil
    refine WL.y rfl (Yld.pure tab_ok rfl) ?_
    obtain ⟨h1, H⟩ := H
    have h2 : ((([] : List VH) : List VH).length + hs_s.length) * 16 ≤ 140737488355328 := by rw [hr1.1, (hr_s.grown gr1).1]; exact h1
    refine WL.append tab_ok rfl rfl One.vv hO2 rfl rfl (hs.grown gr1) rfl hr_s.1.symm h2 (applen h2) (size_le gr1) (fun A_t2 c_t2 w3 hO3 hg3 hk1 => ?_)
    have el1 : (([] : List VH) ++ hs_s).length = (([] : List PV) ++ s).length := by rw [List.length_append, List.length_append, hr1.1, (hr_s.grown gr1).1]
    rw [el1]
    have gr2 := gr_mod gr1 hg3 hO2.ge'
    have k1 := hr1.go hg3 dj1
    have hr2 : RelD deV w3 (([] : List VH) ++ hs_s) (([] : List PV) ++ s) := RelD.append k1 (hr_s.grown gr2)
    have nd2 : OrD (fun p => DnD deV hs_s s p) deV (([] : List VH) ++ hs_s) (([] : List PV) ++ s) w.heap.size := OrD.append hr1.1 nd1 (fun p_ hp_ q_ => q_)
    have dj2 : DnD deV (([] : List VH) ++ hs_s) (([] : List PV) ++ s) (blk A_t2) := (DnD.append hr1.1 (RelD.app hr1 dj1 hk1) (RelD.app (hr_s.grown gr1) (hr_s.new hO2.ge') hk1))
    refine WL.y rfl (Yld.pure tab_ok rfl) ?_
    refine WL.nil (WX.then_normal ?_)
    refine WC.ret ?_
    exact WX.ret1 rfl rfl ⟨gr2, (([] : List PV) ++ s), A_t2, c_t2, (([] : List VH) ++ hs_s), rfl, hO3, hr2, (fun p_ hp_ v0_ => nd2 p_ hp_ v0_), dj2, H⟩

end Go.Proofs.YtjoepdjeekadcaaDoor

 