import Derived.Test.YtfibkajdahaggaaDoorNum10
import Derived.Test.YtfibkajdahaggaaDoorNum11
import Derived.Test.YtfibkajdahaggaaDoorNum6
import Derived.Test.YtfibkajdahaggaaDoorRet
import Derived.Test.YtfibkajdahaggaaDoorOrd
namespace Go.Proofs.YtfibkajdahaggaaDoor
open Go Go.RowKit
attribute [local irreducible] WL WC WX WQ WK Yld Eff Ef0 Fn
theorem Nm.no {w : World} {a b : Value} {z : Int} {m : Nat} (h : Nm w (.agg ⟨[a, b]⟩) z m) : ∀ u ∈ [a, b], ∀ x, u ≠ vd x := by
  obtain ⟨neg, A, c, l, h1, _⟩ := h
  simp only [Value.agg.injEq, Array.mk.injEq, List.cons.injEq, and_true] at h1
  obtain ⟨rfl, rfl⟩ := h1
  intro u hu x
  simp only [List.mem_cons, List.not_mem_nil, or_false] at hu
  rcases hu with rfl | rfl <;> intro e <;> cases e
/-- q is the greatest whole number that is not above x by y, r what is left -/
def Floor (x y q r : Int) : Prop := x = q * y + r ∧ ((0 ≤ r ∧ r < y) ∨ (y < r ∧ r ≤ 0))
theorem Floor.ne {x y q r : Int} (h : Floor x y q r) : y ≠ 0 := by
  rcases h.2 with h | h <;> omega
theorem Floor.unique {x y q r q' r' : Int} (h : Floor x y q r) (h' : Floor x y q' r') : q = q' ∧ r = r' := by
  obtain ⟨h1, h2⟩ := h
  obtain ⟨h3, h4⟩ := h'
  have key : ∀ a b s t : Int, a * y + s = b * y + t → ((0 ≤ s ∧ s < y) ∨ (y < s ∧ s ≤ 0)) → ((0 ≤ t ∧ t < y) ∨ (y < t ∧ t ≤ 0)) → ¬ a < b := by
    intro a b s t e hs ht hab
    obtain ⟨d, hd⟩ := Int.le.dest (show a + 1 ≤ b by omega)
    have hb : b = a + 1 + (d : Int) := by omega
    subst hb
    have e2 : (a + 1 + (d : Int)) * y = a * y + y + (d : Int) * y := by grind
    rw [e2] at e
    rcases hs with hs | hs <;> rcases ht with ht | ht <;> try omega
    · have : 0 ≤ (d : Int) * y := Int.mul_nonneg (by omega) (by omega)
      omega
    · have : 0 ≤ (d : Int) * (-y) := Int.mul_nonneg (by omega) (by omega)
      rw [Int.mul_neg] at this
      omega
  have hq : q = q' := by
    have a1 := key q q' r r' (by omega) h2 h4
    have a2 := key q' q r' r (by omega) h4 h2
    omega
  subst hq
  exact ⟨rfl, by omega⟩
theorem floor_of (na nb : Bool) (va vb q r : Nat) (h : va = q * vb + r) (hr : r < vb) (hs : na = nb ∨ r = 0) : Floor (bif na then -(va : Int) else va) (bif nb then -(vb : Int) else vb) (bif na != nb then -(q : Int) else q) (bif na then -(r : Int) else r) := by
  have e : ((va : Nat) : Int) = (q : Int) * (vb : Int) + (r : Int) := by rw [h]; simp
  unfold Floor
  cases na <;> cases nb <;> simp at hs ⊢
  · exact ⟨by omega, by omega⟩
  · subst hs; exact ⟨by rw [Int.neg_mul_neg]; simpa using e, by omega⟩
  · subst hs; refine ⟨by rw [e]; simp [Int.neg_mul], by omega⟩
  · exact ⟨by rw [Int.mul_neg]; omega, by omega⟩
theorem floor_off (na nb : Bool) (va vb q r : Nat) (h : va = q * vb + r) (hr : r < vb) (hs : na ≠ nb) (h0 : 0 < r) : Floor (bif na then -(va : Int) else va) (bif nb then -(vb : Int) else vb) ((bif na != nb then -(q : Int) else q) - 1) ((bif na then -(r : Int) else r) + (bif nb then -(vb : Int) else vb)) := by
  have e : ((va : Nat) : Int) = (q : Int) * (vb : Int) + (r : Int) := by rw [h]; simp
  unfold Floor
  cases na <;> cases nb <;> simp at hs ⊢
  · exact ⟨by rw [Int.sub_mul, Int.neg_mul, Int.mul_neg]; omega, by omega⟩
  · exact ⟨by rw [Int.sub_mul, Int.neg_mul]; omega, by omega⟩
set_option maxHeartbeats 4000000 in
theorem floor_fn (va vb_ : Value) (x y : Int) (m : Nat) (w : World) (ha : Nm w va x m) (hb : Nm w vb_ y m) (hm : m ≤ 90000) : Fn Tryd.prog 62 ⟨[va, vb_]⟩ w fun v w' => (∃ q r qz rz, v = .tuple #[q, r, .bool (!decide (y = 0))] ∧ Nm w' q qz (m + 4) ∧ Nm w' r rz (m + 4) ∧ (y ≠ 0 → Floor x y qz rz)) ∧ w.grownBy w' none := by
  obtain ⟨na, A, c, la, rfl, hA, hDa, hCa, hla, hna, rfl⟩ := ha
  have hb' := hb
  obtain ⟨nb, B, cb, lb, rfl, hB, hDb, hCb, hlb, hnb, hy⟩ := hb
  refine Fn.enter (by kernel_rfl) Tryd.func62 rfl Tryd.ntmps62 rfl ?_
  repeat (first | refine WC.seq ?_ | refine WC.block ?_ | refine WC.region ?_ | refine WL.nil ?_ | refine WX.then_normal ?_ | refine WC.skip ?_ | refine WC.exit ?_ | refine WC.ret ?_ | refine WX.then_exit ?_ | refine WX.then_ret ?_ | refine WX.block_normal ?_ | refine WX.block_ret ?_ | refine WX.block_same ?_ | refine WX.block_other rfl ?_ | refine WC.label ?_ | refine WC.scope ?_ | refine WX.scope_normal ?_ | refine WX.scope_ret ?_ | refine WX.scope_exit ?_ | refine WL.y rfl (Yld.add rfl rfl (by simp only [In]; omega)) ?_ | refine WL.y rfl (Yld.sub rfl rfl (by simp only [In]; omega)) ?_ | refine WL.y rfl (Yld.mul rfl rfl (by simp only [In]; omega)) ?_ | refine WL.y rfl (Yld.convB tab_ok rfl rfl rfl rfl) ?_ | refine WL.y rfl (Yld.conv tab_ok rfl rfl rfl (by simp only [In]; omega)) ?_ | refine WL.y rfl (Yld.quo rfl rfl (by omega) (by omega) (by simp only [In]; omega)) ?_ | refine WL.y rfl (Yld.rem rfl rfl (by omega) (by omega)) ?_ | refine WL.y rfl (Yld.shl rfl rfl (by omega)) ?_ | refine WL.y rfl (Yld.shr rfl rfl (by omega)) ?_ | refine WL.y rfl (Yld.pure tab_ok rfl) ?_ | refine WL.y rfl (Yld.fld flds_ok rfl rfl rfl) ?_ | refine WL.y rfl (Yld.max2 rfl rfl) ?_ | refine WL.y rfl (Yld.min2 rfl rfl) ?_ | refine WL.y rfl (Yld.pickV rfl rfl rfl) ?_ | refine WL.gno rfl rfl rfl rfl ?_ | refine WL.gyes rfl rfl rfl rfl (Yld.add rfl rfl (by simp only [In]; omega)) ?_ | refine WL.gyes rfl rfl rfl rfl (Yld.sub rfl rfl (by simp only [In]; omega)) ?_ | refine WL.gyes rfl rfl rfl rfl (Yld.mul rfl rfl (by simp only [In]; omega)) ?_ | refine WL.gyes rfl rfl rfl rfl (Yld.convB tab_ok rfl rfl rfl rfl) ?_ | refine WL.gyes rfl rfl rfl rfl (Yld.conv tab_ok rfl rfl rfl (by simp only [In]; omega)) ?_ | refine WL.gyes rfl rfl rfl rfl (Yld.quo rfl rfl (by omega) (by omega) (by simp only [In]; omega)) ?_ | refine WL.gyes rfl rfl rfl rfl (Yld.rem rfl rfl (by omega) (by omega)) ?_ | refine WL.gyes rfl rfl rfl rfl (Yld.shl rfl rfl (by omega)) ?_ | refine WL.gyes rfl rfl rfl rfl (Yld.shr rfl rfl (by omega)) ?_ | refine WL.gyes rfl rfl rfl rfl (Yld.pure tab_ok rfl) ?_ | refine WL.gyes rfl rfl rfl rfl (Yld.fld flds_ok rfl rfl rfl) ?_ | refine WL.gyes rfl rfl rfl rfl (Yld.max2 rfl rfl) ?_ | refine WL.gyes rfl rfl rfl rfl (Yld.min2 rfl rfl) ?_ | refine WL.gyes rfl rfl rfl rfl (Yld.pickV rfl rfl rfl) ?_)
  refine WL.box (us := [.bool na, .slice A la.length c]) rfl rfl rfl (fun g1 w1 hB1 hg1 hl1 => ?_)
  repeat (first | refine WC.seq ?_ | refine WC.block ?_ | refine WC.region ?_ | refine WL.nil ?_ | refine WX.then_normal ?_ | refine WC.skip ?_ | refine WC.exit ?_ | refine WC.ret ?_ | refine WX.then_exit ?_ | refine WX.then_ret ?_ | refine WX.block_normal ?_ | refine WX.block_ret ?_ | refine WX.block_same ?_ | refine WX.block_other rfl ?_ | refine WC.label ?_ | refine WC.scope ?_ | refine WX.scope_normal ?_ | refine WX.scope_ret ?_ | refine WX.scope_exit ?_ | refine WL.y rfl (Yld.add rfl rfl (by simp only [In]; omega)) ?_ | refine WL.y rfl (Yld.sub rfl rfl (by simp only [In]; omega)) ?_ | refine WL.y rfl (Yld.mul rfl rfl (by simp only [In]; omega)) ?_ | refine WL.y rfl (Yld.convB tab_ok rfl rfl rfl rfl) ?_ | refine WL.y rfl (Yld.conv tab_ok rfl rfl rfl (by simp only [In]; omega)) ?_ | refine WL.y rfl (Yld.quo rfl rfl (by omega) (by omega) (by simp only [In]; omega)) ?_ | refine WL.y rfl (Yld.rem rfl rfl (by omega) (by omega)) ?_ | refine WL.y rfl (Yld.shl rfl rfl (by omega)) ?_ | refine WL.y rfl (Yld.shr rfl rfl (by omega)) ?_ | refine WL.y rfl (Yld.pure tab_ok rfl) ?_ | refine WL.y rfl (Yld.fld flds_ok rfl rfl rfl) ?_ | refine WL.y rfl (Yld.max2 rfl rfl) ?_ | refine WL.y rfl (Yld.min2 rfl rfl) ?_ | refine WL.y rfl (Yld.pickV rfl rfl rfl) ?_ | refine WL.gno rfl rfl rfl rfl ?_ | refine WL.gyes rfl rfl rfl rfl (Yld.add rfl rfl (by simp only [In]; omega)) ?_ | refine WL.gyes rfl rfl rfl rfl (Yld.sub rfl rfl (by simp only [In]; omega)) ?_ | refine WL.gyes rfl rfl rfl rfl (Yld.mul rfl rfl (by simp only [In]; omega)) ?_ | refine WL.gyes rfl rfl rfl rfl (Yld.convB tab_ok rfl rfl rfl rfl) ?_ | refine WL.gyes rfl rfl rfl rfl (Yld.conv tab_ok rfl rfl rfl (by simp only [In]; omega)) ?_ | refine WL.gyes rfl rfl rfl rfl (Yld.quo rfl rfl (by omega) (by omega) (by simp only [In]; omega)) ?_ | refine WL.gyes rfl rfl rfl rfl (Yld.rem rfl rfl (by omega) (by omega)) ?_ | refine WL.gyes rfl rfl rfl rfl (Yld.shl rfl rfl (by omega)) ?_ | refine WL.gyes rfl rfl rfl rfl (Yld.shr rfl rfl (by omega)) ?_ | refine WL.gyes rfl rfl rfl rfl (Yld.pure tab_ok rfl) ?_ | refine WL.gyes rfl rfl rfl rfl (Yld.fld flds_ok rfl rfl rfl) ?_ | refine WL.gyes rfl rfl rfl rfl (Yld.max2 rfl rfl) ?_ | refine WL.gyes rfl rfl rfl rfl (Yld.min2 rfl rfl) ?_ | refine WL.gyes rfl rfl rfl rfl (Yld.pickV rfl rfl rfl) ?_)
  refine WL.box (us := [.bool nb, .slice B lb.length cb]) rfl rfl rfl (fun g2 w2 hB2 hg2 hl2 => ?_)
  repeat (first | refine WC.seq ?_ | refine WC.block ?_ | refine WC.region ?_ | refine WL.nil ?_ | refine WX.then_normal ?_ | refine WC.skip ?_ | refine WC.exit ?_ | refine WC.ret ?_ | refine WX.then_exit ?_ | refine WX.then_ret ?_ | refine WX.block_normal ?_ | refine WX.block_ret ?_ | refine WX.block_same ?_ | refine WX.block_other rfl ?_ | refine WC.label ?_ | refine WC.scope ?_ | refine WX.scope_normal ?_ | refine WX.scope_ret ?_ | refine WX.scope_exit ?_ | refine WL.y rfl (Yld.add rfl rfl (by simp only [In]; omega)) ?_ | refine WL.y rfl (Yld.sub rfl rfl (by simp only [In]; omega)) ?_ | refine WL.y rfl (Yld.mul rfl rfl (by simp only [In]; omega)) ?_ | refine WL.y rfl (Yld.convB tab_ok rfl rfl rfl rfl) ?_ | refine WL.y rfl (Yld.conv tab_ok rfl rfl rfl (by simp only [In]; omega)) ?_ | refine WL.y rfl (Yld.quo rfl rfl (by omega) (by omega) (by simp only [In]; omega)) ?_ | refine WL.y rfl (Yld.rem rfl rfl (by omega) (by omega)) ?_ | refine WL.y rfl (Yld.shl rfl rfl (by omega)) ?_ | refine WL.y rfl (Yld.shr rfl rfl (by omega)) ?_ | refine WL.y rfl (Yld.pure tab_ok rfl) ?_ | refine WL.y rfl (Yld.fld flds_ok rfl rfl rfl) ?_ | refine WL.y rfl (Yld.max2 rfl rfl) ?_ | refine WL.y rfl (Yld.min2 rfl rfl) ?_ | refine WL.y rfl (Yld.pickV rfl rfl rfl) ?_ | refine WL.gno rfl rfl rfl rfl ?_ | refine WL.gyes rfl rfl rfl rfl (Yld.add rfl rfl (by simp only [In]; omega)) ?_ | refine WL.gyes rfl rfl rfl rfl (Yld.sub rfl rfl (by simp only [In]; omega)) ?_ | refine WL.gyes rfl rfl rfl rfl (Yld.mul rfl rfl (by simp only [In]; omega)) ?_ | refine WL.gyes rfl rfl rfl rfl (Yld.convB tab_ok rfl rfl rfl rfl) ?_ | refine WL.gyes rfl rfl rfl rfl (Yld.conv tab_ok rfl rfl rfl (by simp only [In]; omega)) ?_ | refine WL.gyes rfl rfl rfl rfl (Yld.quo rfl rfl (by omega) (by omega) (by simp only [In]; omega)) ?_ | refine WL.gyes rfl rfl rfl rfl (Yld.rem rfl rfl (by omega) (by omega)) ?_ | refine WL.gyes rfl rfl rfl rfl (Yld.shl rfl rfl (by omega)) ?_ | refine WL.gyes rfl rfl rfl rfl (Yld.shr rfl rfl (by omega)) ?_ | refine WL.gyes rfl rfl rfl rfl (Yld.pure tab_ok rfl) ?_ | refine WL.gyes rfl rfl rfl rfl (Yld.fld flds_ok rfl rfl rfl) ?_ | refine WL.gyes rfl rfl rfl rfl (Yld.max2 rfl rfl) ?_ | refine WL.gyes rfl rfl rfl rfl (Yld.min2 rfl rfl) ?_ | refine WL.gyes rfl rfl rfl rfl (Yld.pickV rfl rfl rfl) ?_)
  refine WL.alloc rfl zero50 (fun g3 w3 hB3 hg3 hl3 => ?_)
  repeat (first | refine WC.seq ?_ | refine WC.block ?_ | refine WC.region ?_ | refine WL.nil ?_ | refine WX.then_normal ?_ | refine WC.skip ?_ | refine WC.exit ?_ | refine WC.ret ?_ | refine WX.then_exit ?_ | refine WX.then_ret ?_ | refine WX.block_normal ?_ | refine WX.block_ret ?_ | refine WX.block_same ?_ | refine WX.block_other rfl ?_ | refine WC.label ?_ | refine WC.scope ?_ | refine WX.scope_normal ?_ | refine WX.scope_ret ?_ | refine WX.scope_exit ?_ | refine WL.y rfl (Yld.add rfl rfl (by simp only [In]; omega)) ?_ | refine WL.y rfl (Yld.sub rfl rfl (by simp only [In]; omega)) ?_ | refine WL.y rfl (Yld.mul rfl rfl (by simp only [In]; omega)) ?_ | refine WL.y rfl (Yld.convB tab_ok rfl rfl rfl rfl) ?_ | refine WL.y rfl (Yld.conv tab_ok rfl rfl rfl (by simp only [In]; omega)) ?_ | refine WL.y rfl (Yld.quo rfl rfl (by omega) (by omega) (by simp only [In]; omega)) ?_ | refine WL.y rfl (Yld.rem rfl rfl (by omega) (by omega)) ?_ | refine WL.y rfl (Yld.shl rfl rfl (by omega)) ?_ | refine WL.y rfl (Yld.shr rfl rfl (by omega)) ?_ | refine WL.y rfl (Yld.pure tab_ok rfl) ?_ | refine WL.y rfl (Yld.fld flds_ok rfl rfl rfl) ?_ | refine WL.y rfl (Yld.max2 rfl rfl) ?_ | refine WL.y rfl (Yld.min2 rfl rfl) ?_ | refine WL.y rfl (Yld.pickV rfl rfl rfl) ?_ | refine WL.gno rfl rfl rfl rfl ?_ | refine WL.gyes rfl rfl rfl rfl (Yld.add rfl rfl (by simp only [In]; omega)) ?_ | refine WL.gyes rfl rfl rfl rfl (Yld.sub rfl rfl (by simp only [In]; omega)) ?_ | refine WL.gyes rfl rfl rfl rfl (Yld.mul rfl rfl (by simp only [In]; omega)) ?_ | refine WL.gyes rfl rfl rfl rfl (Yld.convB tab_ok rfl rfl rfl rfl) ?_ | refine WL.gyes rfl rfl rfl rfl (Yld.conv tab_ok rfl rfl rfl (by simp only [In]; omega)) ?_ | refine WL.gyes rfl rfl rfl rfl (Yld.quo rfl rfl (by omega) (by omega) (by simp only [In]; omega)) ?_ | refine WL.gyes rfl rfl rfl rfl (Yld.rem rfl rfl (by omega) (by omega)) ?_ | refine WL.gyes rfl rfl rfl rfl (Yld.shl rfl rfl (by omega)) ?_ | refine WL.gyes rfl rfl rfl rfl (Yld.shr rfl rfl (by omega)) ?_ | refine WL.gyes rfl rfl rfl rfl (Yld.pure tab_ok rfl) ?_ | refine WL.gyes rfl rfl rfl rfl (Yld.fld flds_ok rfl rfl rfl) ?_ | refine WL.gyes rfl rfl rfl rfl (Yld.max2 rfl rfl) ?_ | refine WL.gyes rfl rfl rfl rfl (Yld.min2 rfl rfl) ?_ | refine WL.gyes rfl rfl rfl rfl (Yld.pickV rfl rfl rfl) ?_)
  refine WL.alloc rfl zero50 (fun g4 w4 hB4 hg4 hl4 => ?_)
  have hlt1 := hB1.lt
  have hlt2 := hB2.lt
  have hlt3 := hB3.lt
  have hlt4 := hB4.lt
  have hz1 := hg1.size
  have hz2 := hg2.size
  have hz3 := hg3.size
  have hz4 := hg4.size
  have hB14 := ((hB1.keep hg2 (by simp)).keep hg3 (by simp)).keep hg4 (by simp)
  have hB24 := (hB2.keep hg3 (by simp)).keep hg4 (by simp)
  have hB34 := hB3.keep hg4 (by simp)
  have hg14 := gr_trans (gr_trans (gr_trans hg1 hg2) hg3) hg4
  have hA4 := hA.grown hg14
  have hB4' := hB.grown hg14
  repeat (first | refine WL.y rfl (Yld.bload tab_ok hB14 rfl rfl rfl) ?_ | refine WL.y rfl (Yld.bload tab_ok hB24 rfl rfl rfl) ?_ | refine WC.seq ?_ | refine WC.block ?_ | refine WC.region ?_ | refine WL.nil ?_ | refine WX.then_normal ?_ | refine WC.skip ?_ | refine WC.exit ?_ | refine WC.ret ?_ | refine WX.then_exit ?_ | refine WX.then_ret ?_ | refine WX.block_normal ?_ | refine WX.block_ret ?_ | refine WX.block_same ?_ | refine WX.block_other rfl ?_ | refine WC.label ?_ | refine WC.scope ?_ | refine WX.scope_normal ?_ | refine WX.scope_ret ?_ | refine WX.scope_exit ?_ | refine WL.y rfl (Yld.add rfl rfl (by simp only [In]; omega)) ?_ | refine WL.y rfl (Yld.sub rfl rfl (by simp only [In]; omega)) ?_ | refine WL.y rfl (Yld.mul rfl rfl (by simp only [In]; omega)) ?_ | refine WL.y rfl (Yld.convB tab_ok rfl rfl rfl rfl) ?_ | refine WL.y rfl (Yld.conv tab_ok rfl rfl rfl (by simp only [In]; omega)) ?_ | refine WL.y rfl (Yld.quo rfl rfl (by omega) (by omega) (by simp only [In]; omega)) ?_ | refine WL.y rfl (Yld.rem rfl rfl (by omega) (by omega)) ?_ | refine WL.y rfl (Yld.shl rfl rfl (by omega)) ?_ | refine WL.y rfl (Yld.shr rfl rfl (by omega)) ?_ | refine WL.y rfl (Yld.pure tab_ok rfl) ?_ | refine WL.y rfl (Yld.fld flds_ok rfl rfl rfl) ?_ | refine WL.y rfl (Yld.max2 rfl rfl) ?_ | refine WL.y rfl (Yld.min2 rfl rfl) ?_ | refine WL.y rfl (Yld.pickV rfl rfl rfl) ?_ | refine WL.gno rfl rfl rfl rfl ?_ | refine WL.gyes rfl rfl rfl rfl (Yld.add rfl rfl (by simp only [In]; omega)) ?_ | refine WL.gyes rfl rfl rfl rfl (Yld.sub rfl rfl (by simp only [In]; omega)) ?_ | refine WL.gyes rfl rfl rfl rfl (Yld.mul rfl rfl (by simp only [In]; omega)) ?_ | refine WL.gyes rfl rfl rfl rfl (Yld.convB tab_ok rfl rfl rfl rfl) ?_ | refine WL.gyes rfl rfl rfl rfl (Yld.conv tab_ok rfl rfl rfl (by simp only [In]; omega)) ?_ | refine WL.gyes rfl rfl rfl rfl (Yld.quo rfl rfl (by omega) (by omega) (by simp only [In]; omega)) ?_ | refine WL.gyes rfl rfl rfl rfl (Yld.rem rfl rfl (by omega) (by omega)) ?_ | refine WL.gyes rfl rfl rfl rfl (Yld.shl rfl rfl (by omega)) ?_ | refine WL.gyes rfl rfl rfl rfl (Yld.shr rfl rfl (by omega)) ?_ | refine WL.gyes rfl rfl rfl rfl (Yld.pure tab_ok rfl) ?_ | refine WL.gyes rfl rfl rfl rfl (Yld.fld flds_ok rfl rfl rfl) ?_ | refine WL.gyes rfl rfl rfl rfl (Yld.max2 rfl rfl) ?_ | refine WL.gyes rfl rfl rfl rfl (Yld.min2 rfl rfl) ?_ | refine WL.gyes rfl rfl rfl rfl (Yld.pickV rfl rfl rfl) ?_)
  refine WC.cond rfl (fun h => ?_) (fun h => ?_)
  · simp only [decide_eq_true_eq] at h
    have hlb0 : lb = [] := List.length_eq_zero_iff.mp (by omega)
    have hy0 : y = 0 := by rw [hy, hlb0]; cases nb <;> rfl
    repeat (first | refine WC.seq ?_ | refine WC.block ?_ | refine WC.region ?_ | refine WL.nil ?_ | refine WX.then_normal ?_ | refine WC.skip ?_ | refine WC.exit ?_ | refine WC.ret ?_ | refine WX.then_exit ?_ | refine WX.then_ret ?_ | refine WX.block_normal ?_ | refine WX.block_ret ?_ | refine WX.block_same ?_ | refine WX.block_other rfl ?_ | refine WC.label ?_ | refine WC.scope ?_ | refine WX.scope_normal ?_ | refine WX.scope_ret ?_ | refine WX.scope_exit ?_ | refine WL.y rfl (Yld.add rfl rfl (by simp only [In]; omega)) ?_ | refine WL.y rfl (Yld.sub rfl rfl (by simp only [In]; omega)) ?_ | refine WL.y rfl (Yld.mul rfl rfl (by simp only [In]; omega)) ?_ | refine WL.y rfl (Yld.convB tab_ok rfl rfl rfl rfl) ?_ | refine WL.y rfl (Yld.conv tab_ok rfl rfl rfl (by simp only [In]; omega)) ?_ | refine WL.y rfl (Yld.quo rfl rfl (by omega) (by omega) (by simp only [In]; omega)) ?_ | refine WL.y rfl (Yld.rem rfl rfl (by omega) (by omega)) ?_ | refine WL.y rfl (Yld.shl rfl rfl (by omega)) ?_ | refine WL.y rfl (Yld.shr rfl rfl (by omega)) ?_ | refine WL.y rfl (Yld.pure tab_ok rfl) ?_ | refine WL.y rfl (Yld.fld flds_ok rfl rfl rfl) ?_ | refine WL.y rfl (Yld.max2 rfl rfl) ?_ | refine WL.y rfl (Yld.min2 rfl rfl) ?_ | refine WL.y rfl (Yld.pickV rfl rfl rfl) ?_ | refine WL.gno rfl rfl rfl rfl ?_ | refine WL.gyes rfl rfl rfl rfl (Yld.add rfl rfl (by simp only [In]; omega)) ?_ | refine WL.gyes rfl rfl rfl rfl (Yld.sub rfl rfl (by simp only [In]; omega)) ?_ | refine WL.gyes rfl rfl rfl rfl (Yld.mul rfl rfl (by simp only [In]; omega)) ?_ | refine WL.gyes rfl rfl rfl rfl (Yld.convB tab_ok rfl rfl rfl rfl) ?_ | refine WL.gyes rfl rfl rfl rfl (Yld.conv tab_ok rfl rfl rfl (by simp only [In]; omega)) ?_ | refine WL.gyes rfl rfl rfl rfl (Yld.quo rfl rfl (by omega) (by omega) (by simp only [In]; omega)) ?_ | refine WL.gyes rfl rfl rfl rfl (Yld.rem rfl rfl (by omega) (by omega)) ?_ | refine WL.gyes rfl rfl rfl rfl (Yld.shl rfl rfl (by omega)) ?_ | refine WL.gyes rfl rfl rfl rfl (Yld.shr rfl rfl (by omega)) ?_ | refine WL.gyes rfl rfl rfl rfl (Yld.pure tab_ok rfl) ?_ | refine WL.gyes rfl rfl rfl rfl (Yld.fld flds_ok rfl rfl rfl) ?_ | refine WL.gyes rfl rfl rfl rfl (Yld.max2 rfl rfl) ?_ | refine WL.gyes rfl rfl rfl rfl (Yld.min2 rfl rfl) ?_ | refine WL.gyes rfl rfl rfl rfl (Yld.pickV rfl rfl rfl) ?_)
    refine WL.y rfl (Yld.struct (us := [.bool false, .slice none 0 0]) zero50 places50 rfl rfl) ?_
    refine WL.y rfl (Yld.struct (us := [.bool false, .slice none 0 0]) zero50 places50 rfl rfl) ?_
    refine WL.storeW (vs := [.bool false, .slice none 0 0]) tab_ok rfl rfl rfl (by intro u hu; simp at hu; rcases hu with rfl | rfl <;> rfl) hB34 rfl rfl (fun w5 hB5 hg5 => ?_)
    have hB45 := hB4.keep hg5 (by simp; omega)
    refine WL.storeW (vs := [.bool false, .slice none 0 0]) tab_ok rfl rfl rfl (by intro u hu; simp at hu; rcases hu with rfl | rfl <;> rfl) hB45 rfl rfl (fun w6 hB6 hg6 => ?_)
    have hB56 := hB5.keep hg6 (by simp; omega)
    repeat (first | refine WC.seq ?_ | refine WC.block ?_ | refine WC.region ?_ | refine WL.nil ?_ | refine WX.then_normal ?_ | refine WC.skip ?_ | refine WC.exit ?_ | refine WC.ret ?_ | refine WX.then_exit ?_ | refine WX.then_ret ?_ | refine WX.block_normal ?_ | refine WX.block_ret ?_ | refine WX.block_same ?_ | refine WX.block_other rfl ?_ | refine WC.label ?_ | refine WC.scope ?_ | refine WX.scope_normal ?_ | refine WX.scope_ret ?_ | refine WX.scope_exit ?_ | refine WL.y rfl (Yld.add rfl rfl (by simp only [In]; omega)) ?_ | refine WL.y rfl (Yld.sub rfl rfl (by simp only [In]; omega)) ?_ | refine WL.y rfl (Yld.mul rfl rfl (by simp only [In]; omega)) ?_ | refine WL.y rfl (Yld.convB tab_ok rfl rfl rfl rfl) ?_ | refine WL.y rfl (Yld.conv tab_ok rfl rfl rfl (by simp only [In]; omega)) ?_ | refine WL.y rfl (Yld.quo rfl rfl (by omega) (by omega) (by simp only [In]; omega)) ?_ | refine WL.y rfl (Yld.rem rfl rfl (by omega) (by omega)) ?_ | refine WL.y rfl (Yld.shl rfl rfl (by omega)) ?_ | refine WL.y rfl (Yld.shr rfl rfl (by omega)) ?_ | refine WL.y rfl (Yld.pure tab_ok rfl) ?_ | refine WL.y rfl (Yld.fld flds_ok rfl rfl rfl) ?_ | refine WL.y rfl (Yld.max2 rfl rfl) ?_ | refine WL.y rfl (Yld.min2 rfl rfl) ?_ | refine WL.y rfl (Yld.pickV rfl rfl rfl) ?_ | refine WL.gno rfl rfl rfl rfl ?_ | refine WL.gyes rfl rfl rfl rfl (Yld.add rfl rfl (by simp only [In]; omega)) ?_ | refine WL.gyes rfl rfl rfl rfl (Yld.sub rfl rfl (by simp only [In]; omega)) ?_ | refine WL.gyes rfl rfl rfl rfl (Yld.mul rfl rfl (by simp only [In]; omega)) ?_ | refine WL.gyes rfl rfl rfl rfl (Yld.convB tab_ok rfl rfl rfl rfl) ?_ | refine WL.gyes rfl rfl rfl rfl (Yld.conv tab_ok rfl rfl rfl (by simp only [In]; omega)) ?_ | refine WL.gyes rfl rfl rfl rfl (Yld.quo rfl rfl (by omega) (by omega) (by simp only [In]; omega)) ?_ | refine WL.gyes rfl rfl rfl rfl (Yld.rem rfl rfl (by omega) (by omega)) ?_ | refine WL.gyes rfl rfl rfl rfl (Yld.shl rfl rfl (by omega)) ?_ | refine WL.gyes rfl rfl rfl rfl (Yld.shr rfl rfl (by omega)) ?_ | refine WL.gyes rfl rfl rfl rfl (Yld.pure tab_ok rfl) ?_ | refine WL.gyes rfl rfl rfl rfl (Yld.fld flds_ok rfl rfl rfl) ?_ | refine WL.gyes rfl rfl rfl rfl (Yld.max2 rfl rfl) ?_ | refine WL.gyes rfl rfl rfl rfl (Yld.min2 rfl rfl) ?_ | refine WL.gyes rfl rfl rfl rfl (Yld.pickV rfl rfl rfl) ?_)
    have hz0 : ∀ w : World, Nm w (.agg ⟨[.bool false, .slice none 0 0]⟩) 0 (m + 4) := fun w => ⟨false, none, 0, [], rfl, Rd.nil _ _ (by simp [maxLen]), Dg.nil, fun h => absurd rfl h, by simp, by simp, rfl⟩
    exact WX.retcct tab_ok rfl rfl rfl hB56 rfl rfl rfl hB6 rfl rfl ⟨⟨_, _, 0, 0, by rw [decide_eq_true hy0]; rfl, hz0 _, hz0 _, fun e => absurd hy0 e⟩, gr_new (gr_new hg14 hg5 (by omega)) hg6 (by omega)⟩
  · simp only [decide_eq_false_iff_not] at h
    have hlb0 : lb ≠ [] := fun e => h (by rw [e]; rfl)
    have hpos := val_pos hCb hlb0
    have hy0 : y ≠ 0 := by rw [hy]; cases nb <;> simp <;> omega
    repeat (first | refine WL.y rfl (Yld.bload tab_ok hB14 rfl rfl rfl) ?_ | refine WL.y rfl (Yld.bload tab_ok hB24 rfl rfl rfl) ?_ | refine WC.seq ?_ | refine WC.block ?_ | refine WC.region ?_ | refine WL.nil ?_ | refine WX.then_normal ?_ | refine WC.skip ?_ | refine WC.exit ?_ | refine WC.ret ?_ | refine WX.then_exit ?_ | refine WX.then_ret ?_ | refine WX.block_normal ?_ | refine WX.block_ret ?_ | refine WX.block_same ?_ | refine WX.block_other rfl ?_ | refine WC.label ?_ | refine WC.scope ?_ | refine WX.scope_normal ?_ | refine WX.scope_ret ?_ | refine WX.scope_exit ?_ | refine WL.y rfl (Yld.add rfl rfl (by simp only [In]; omega)) ?_ | refine WL.y rfl (Yld.sub rfl rfl (by simp only [In]; omega)) ?_ | refine WL.y rfl (Yld.mul rfl rfl (by simp only [In]; omega)) ?_ | refine WL.y rfl (Yld.convB tab_ok rfl rfl rfl rfl) ?_ | refine WL.y rfl (Yld.conv tab_ok rfl rfl rfl (by simp only [In]; omega)) ?_ | refine WL.y rfl (Yld.quo rfl rfl (by omega) (by omega) (by simp only [In]; omega)) ?_ | refine WL.y rfl (Yld.rem rfl rfl (by omega) (by omega)) ?_ | refine WL.y rfl (Yld.shl rfl rfl (by omega)) ?_ | refine WL.y rfl (Yld.shr rfl rfl (by omega)) ?_ | refine WL.y rfl (Yld.pure tab_ok rfl) ?_ | refine WL.y rfl (Yld.fld flds_ok rfl rfl rfl) ?_ | refine WL.y rfl (Yld.max2 rfl rfl) ?_ | refine WL.y rfl (Yld.min2 rfl rfl) ?_ | refine WL.y rfl (Yld.pickV rfl rfl rfl) ?_ | refine WL.gno rfl rfl rfl rfl ?_ | refine WL.gyes rfl rfl rfl rfl (Yld.add rfl rfl (by simp only [In]; omega)) ?_ | refine WL.gyes rfl rfl rfl rfl (Yld.sub rfl rfl (by simp only [In]; omega)) ?_ | refine WL.gyes rfl rfl rfl rfl (Yld.mul rfl rfl (by simp only [In]; omega)) ?_ | refine WL.gyes rfl rfl rfl rfl (Yld.convB tab_ok rfl rfl rfl rfl) ?_ | refine WL.gyes rfl rfl rfl rfl (Yld.conv tab_ok rfl rfl rfl (by simp only [In]; omega)) ?_ | refine WL.gyes rfl rfl rfl rfl (Yld.quo rfl rfl (by omega) (by omega) (by simp only [In]; omega)) ?_ | refine WL.gyes rfl rfl rfl rfl (Yld.rem rfl rfl (by omega) (by omega)) ?_ | refine WL.gyes rfl rfl rfl rfl (Yld.shl rfl rfl (by omega)) ?_ | refine WL.gyes rfl rfl rfl rfl (Yld.shr rfl rfl (by omega)) ?_ | refine WL.gyes rfl rfl rfl rfl (Yld.pure tab_ok rfl) ?_ | refine WL.gyes rfl rfl rfl rfl (Yld.fld flds_ok rfl rfl rfl) ?_ | refine WL.gyes rfl rfl rfl rfl (Yld.max2 rfl rfl) ?_ | refine WL.gyes rfl rfl rfl rfl (Yld.min2 rfl rfl) ?_ | refine WL.gyes rfl rfl rfl rfl (Yld.pickV rfl rfl rfl) ?_)
    refine WL.call rfl rfl (divide_fn A c la B cb lb w4 hA4 hB4' hDa hDb hCb hlb0 (by omega) (by omega)) ?_
    rintro _ w5 ⟨Q, cq, q, R, cr, r, rfl, hRQ, hRR, hDq, hDr, hCr, hql, hv, hvr, hg5⟩
    have hB15 := hB14.keep hg5 (by simp)
    have hB25 := hB24.keep hg5 (by simp)
    have hrl := val_len_le hDb hCr (by omega : val r ≤ val lb)
    repeat (first | refine WC.seq ?_ | refine WC.block ?_ | refine WC.region ?_ | refine WL.nil ?_ | refine WX.then_normal ?_ | refine WC.skip ?_ | refine WC.exit ?_ | refine WC.ret ?_ | refine WX.then_exit ?_ | refine WX.then_ret ?_ | refine WX.block_normal ?_ | refine WX.block_ret ?_ | refine WX.block_same ?_ | refine WX.block_other rfl ?_ | refine WC.label ?_ | refine WC.scope ?_ | refine WX.scope_normal ?_ | refine WX.scope_ret ?_ | refine WX.scope_exit ?_ | refine WL.y rfl (Yld.add rfl rfl (by simp only [In]; omega)) ?_ | refine WL.y rfl (Yld.sub rfl rfl (by simp only [In]; omega)) ?_ | refine WL.y rfl (Yld.mul rfl rfl (by simp only [In]; omega)) ?_ | refine WL.y rfl (Yld.convB tab_ok rfl rfl rfl rfl) ?_ | refine WL.y rfl (Yld.conv tab_ok rfl rfl rfl (by simp only [In]; omega)) ?_ | refine WL.y rfl (Yld.quo rfl rfl (by omega) (by omega) (by simp only [In]; omega)) ?_ | refine WL.y rfl (Yld.rem rfl rfl (by omega) (by omega)) ?_ | refine WL.y rfl (Yld.shl rfl rfl (by omega)) ?_ | refine WL.y rfl (Yld.shr rfl rfl (by omega)) ?_ | refine WL.y rfl (Yld.pure tab_ok rfl) ?_ | refine WL.y rfl (Yld.fld flds_ok rfl rfl rfl) ?_ | refine WL.y rfl (Yld.max2 rfl rfl) ?_ | refine WL.y rfl (Yld.min2 rfl rfl) ?_ | refine WL.y rfl (Yld.pickV rfl rfl rfl) ?_ | refine WL.gno rfl rfl rfl rfl ?_ | refine WL.gyes rfl rfl rfl rfl (Yld.add rfl rfl (by simp only [In]; omega)) ?_ | refine WL.gyes rfl rfl rfl rfl (Yld.sub rfl rfl (by simp only [In]; omega)) ?_ | refine WL.gyes rfl rfl rfl rfl (Yld.mul rfl rfl (by simp only [In]; omega)) ?_ | refine WL.gyes rfl rfl rfl rfl (Yld.convB tab_ok rfl rfl rfl rfl) ?_ | refine WL.gyes rfl rfl rfl rfl (Yld.conv tab_ok rfl rfl rfl (by simp only [In]; omega)) ?_ | refine WL.gyes rfl rfl rfl rfl (Yld.quo rfl rfl (by omega) (by omega) (by simp only [In]; omega)) ?_ | refine WL.gyes rfl rfl rfl rfl (Yld.rem rfl rfl (by omega) (by omega)) ?_ | refine WL.gyes rfl rfl rfl rfl (Yld.shl rfl rfl (by omega)) ?_ | refine WL.gyes rfl rfl rfl rfl (Yld.shr rfl rfl (by omega)) ?_ | refine WL.gyes rfl rfl rfl rfl (Yld.pure tab_ok rfl) ?_ | refine WL.gyes rfl rfl rfl rfl (Yld.fld flds_ok rfl rfl rfl) ?_ | refine WL.gyes rfl rfl rfl rfl (Yld.max2 rfl rfl) ?_ | refine WL.gyes rfl rfl rfl rfl (Yld.min2 rfl rfl) ?_ | refine WL.gyes rfl rfl rfl rfl (Yld.pickV rfl rfl rfl) ?_)
    have hbt := Tryd.underlying4
    refine WC.orders4 (S1 := Nat) (S2 := Nat) (S3 := Value) (S4 := Value) 13 (fun k => Nat.blt k 6 || (Nat.blt 6 k && Nat.blt k 10)) (fun w' => w5.grownBy w' none) (fun g9 g10 q1 r1 => [(9, .pointer (some ⟨g9, 0, none⟩)), (10, .pointer (some ⟨g10, 0, none⟩)), (31, q1), (35, r1), (2, .pointer (some ⟨g1, 0, none⟩)), (3, .pointer (some ⟨g2, 0, none⟩)), (4, .pointer (some ⟨g3, 0, none⟩)), (5, .pointer (some ⟨g4, 0, none⟩))]) (fun g9 g10 q1 r1 w' => Bl w' g9 50 [.bool false, .slice none 0 0] ∧ Bl w' g10 50 [.bool false, .slice none 0 0] ∧ Nm w' q1 (bif na != nb then -(val q : Int) else (val q : Int)) q.length ∧ Nm w' r1 (bif na then -(val r : Int) else (val r : Int)) r.length ∧ g9 ≠ g10 ∧ w5.heap.size ≤ g9 ∧ w5.heap.size ≤ g10 ∧ w5.grownBy w' none) mixed (by kernel_rfl) (fun w' e => gr_eqv (gr_refl _ _) e) ?_ ?_
    · have hz5 := hg5.size
      refine WA.y 0 rfl (by kernel_rfl) rfl (fun w' h => Yld.pure tab_ok rfl) ?_
      refine WA.y 1 rfl (by kernel_rfl) rfl (fun w' h => Yld.bload tab_ok (hB15.keep h (by simp)) rfl rfl rfl) ?_
      refine WA.y 2 rfl (by kernel_rfl) rfl (fun w' h => Yld.pure tab_ok rfl) ?_
      refine WA.y 3 rfl (by kernel_rfl) rfl (fun w' h => Yld.bload tab_ok (hB25.keep h (by simp)) rfl rfl rfl) ?_
      refine WA.y 4 rfl (by kernel_rfl) rfl (fun w' h => Yld.bneq hbt rfl rfl) ?_
      refine WA.y 5 rfl (by kernel_rfl) rfl (fun w' h => Yld.pure tab_ok rfl) ?_
      refine WA.y 7 rfl (by kernel_rfl) rfl (fun w' h => Yld.pure tab_ok rfl) ?_
      refine WA.y 8 rfl (by kernel_rfl) rfl (fun w' h => Yld.bload tab_ok (hB15.keep h (by simp)) rfl rfl rfl) ?_
      refine WA.y 9 rfl (by kernel_rfl) rfl (fun w' h => Yld.pure tab_ok rfl) ?_
      refine WA.split [6, 11, 12] (by kernel_rfl) (by kernel_rfl) ⟨?_, ?_, ?_⟩
      · refine WI.call rfl rfl wants_none rfl rfl (made_fn (na != nb) Q cq q w5 hRQ hDq (by omega)) (fun v w' h w2 e => gr_eqv (gr_trans (gr_refl _ _) h.2) e) ?_
        rintro q1 v1 ⟨hNq, gs1⟩
        have gz1 := gs1.size
        have gt1 : w5.grownBy v1 none := gr_trans (gr_refl _ _) gs1
        refine WA.split [10, 11, 12] (by kernel_rfl) (by kernel_rfl) ⟨?_, ?_, ?_⟩
        · refine WI.call rfl rfl wants_none rfl rfl (made_fn na R cr r v1 (hRR.grown gt1) hDr (by omega)) (fun v w' h w2 e => gr_eqv (gr_trans (gt1) h.2) e) ?_
          rintro r1 v2 ⟨hNr, gs2⟩
          have gz2 := gs2.size
          have gt2 : w5.grownBy v2 none := gr_trans (gt1) gs2
          refine WA.split [11, 12] (by kernel_rfl) (by kernel_rfl) ⟨?_, ?_⟩
          · refine WI.put rfl rfl rfl (Eff.alloc zero50) (fun v w' h => gr_trans (gt2) h.2.2) ?_
            rintro _ v3 ⟨rfl, hBa, gs3⟩
            have hlta := hBa.lt
            have gz3 := gs3.size
            have gt3 : w5.grownBy v3 none := gr_trans (gt2) gs3
            refine WA.split [12] (by kernel_rfl) (by kernel_rfl) ?_
            · refine WI.put rfl rfl rfl (Eff.alloc zero50) (fun v w' h => gr_trans (gt3) h.2.2) ?_
              rintro _ v4 ⟨rfl, hBb, gs4⟩
              have hltb := hBb.lt
              have gz4 := gs4.size
              have gt4 : w5.grownBy v4 none := gr_trans (gt3) gs4
              exact WA.done4 _ _ q1 r1 (by kernel_rfl) ⟨(hBa.keep gs4 (by simp)), hBb, (((hNq.grown gs2).grown gs3).grown gs4), ((hNr.grown gs3).grown gs4), by omega, by omega, by omega, gt4⟩ (by repeat (first | exact Sub.nil | refine Sub.cons rfl ?_))
          · refine WI.put rfl rfl rfl (Eff.alloc zero50) (fun v w' h => gr_trans (gt2) h.2.2) ?_
            rintro _ v3 ⟨rfl, hBb, gs3⟩
            have hltb := hBb.lt
            have gz3 := gs3.size
            have gt3 : w5.grownBy v3 none := gr_trans (gt2) gs3
            refine WA.split [11] (by kernel_rfl) (by kernel_rfl) ?_
            · refine WI.put rfl rfl rfl (Eff.alloc zero50) (fun v w' h => gr_trans (gt3) h.2.2) ?_
              rintro _ v4 ⟨rfl, hBa, gs4⟩
              have hlta := hBa.lt
              have gz4 := gs4.size
              have gt4 : w5.grownBy v4 none := gr_trans (gt3) gs4
              exact WA.done4 _ _ q1 r1 (by kernel_rfl) ⟨hBa, (hBb.keep gs4 (by simp)), (((hNq.grown gs2).grown gs3).grown gs4), ((hNr.grown gs3).grown gs4), by omega, by omega, by omega, gt4⟩ (by repeat (first | exact Sub.nil | refine Sub.cons rfl ?_))
        · refine WI.put rfl rfl rfl (Eff.alloc zero50) (fun v w' h => gr_trans (gt1) h.2.2) ?_
          rintro _ v2 ⟨rfl, hBa, gs2⟩
          have hlta := hBa.lt
          have gz2 := gs2.size
          have gt2 : w5.grownBy v2 none := gr_trans (gt1) gs2
          refine WA.split [10, 12] (by kernel_rfl) (by kernel_rfl) ⟨?_, ?_⟩
          · refine WI.call rfl rfl wants_none rfl rfl (made_fn na R cr r v2 (hRR.grown gt2) hDr (by omega)) (fun v w' h w2 e => gr_eqv (gr_trans (gt2) h.2) e) ?_
            rintro r1 v3 ⟨hNr, gs3⟩
            have gz3 := gs3.size
            have gt3 : w5.grownBy v3 none := gr_trans (gt2) gs3
            refine WA.split [12] (by kernel_rfl) (by kernel_rfl) ?_
            · refine WI.put rfl rfl rfl (Eff.alloc zero50) (fun v w' h => gr_trans (gt3) h.2.2) ?_
              rintro _ v4 ⟨rfl, hBb, gs4⟩
              have hltb := hBb.lt
              have gz4 := gs4.size
              have gt4 : w5.grownBy v4 none := gr_trans (gt3) gs4
              exact WA.done4 _ _ q1 r1 (by kernel_rfl) ⟨((hBa.keep gs3 (by simp)).keep gs4 (by simp)), hBb, (((hNq.grown gs2).grown gs3).grown gs4), (hNr.grown gs4), by omega, by omega, by omega, gt4⟩ (by repeat (first | exact Sub.nil | refine Sub.cons rfl ?_))
          · refine WI.put rfl rfl rfl (Eff.alloc zero50) (fun v w' h => gr_trans (gt2) h.2.2) ?_
            rintro _ v3 ⟨rfl, hBb, gs3⟩
            have hltb := hBb.lt
            have gz3 := gs3.size
            have gt3 : w5.grownBy v3 none := gr_trans (gt2) gs3
            refine WA.split [10] (by kernel_rfl) (by kernel_rfl) ?_
            · refine WI.call rfl rfl wants_none rfl rfl (made_fn na R cr r v3 (hRR.grown gt3) hDr (by omega)) (fun v w' h w2 e => gr_eqv (gr_trans (gt3) h.2) e) ?_
              rintro r1 v4 ⟨hNr, gs4⟩
              have gz4 := gs4.size
              have gt4 : w5.grownBy v4 none := gr_trans (gt3) gs4
              exact WA.done4 _ _ q1 r1 (by kernel_rfl) ⟨((hBa.keep gs3 (by simp)).keep gs4 (by simp)), (hBb.keep gs4 (by simp)), (((hNq.grown gs2).grown gs3).grown gs4), hNr, by omega, by omega, by omega, gt4⟩ (by repeat (first | exact Sub.nil | refine Sub.cons rfl ?_))
        · refine WI.put rfl rfl rfl (Eff.alloc zero50) (fun v w' h => gr_trans (gt1) h.2.2) ?_
          rintro _ v2 ⟨rfl, hBb, gs2⟩
          have hltb := hBb.lt
          have gz2 := gs2.size
          have gt2 : w5.grownBy v2 none := gr_trans (gt1) gs2
          refine WA.split [10, 11] (by kernel_rfl) (by kernel_rfl) ⟨?_, ?_⟩
          · refine WI.call rfl rfl wants_none rfl rfl (made_fn na R cr r v2 (hRR.grown gt2) hDr (by omega)) (fun v w' h w2 e => gr_eqv (gr_trans (gt2) h.2) e) ?_
            rintro r1 v3 ⟨hNr, gs3⟩
            have gz3 := gs3.size
            have gt3 : w5.grownBy v3 none := gr_trans (gt2) gs3
            refine WA.split [11] (by kernel_rfl) (by kernel_rfl) ?_
            · refine WI.put rfl rfl rfl (Eff.alloc zero50) (fun v w' h => gr_trans (gt3) h.2.2) ?_
              rintro _ v4 ⟨rfl, hBa, gs4⟩
              have hlta := hBa.lt
              have gz4 := gs4.size
              have gt4 : w5.grownBy v4 none := gr_trans (gt3) gs4
              exact WA.done4 _ _ q1 r1 (by kernel_rfl) ⟨hBa, ((hBb.keep gs3 (by simp)).keep gs4 (by simp)), (((hNq.grown gs2).grown gs3).grown gs4), (hNr.grown gs4), by omega, by omega, by omega, gt4⟩ (by repeat (first | exact Sub.nil | refine Sub.cons rfl ?_))
          · refine WI.put rfl rfl rfl (Eff.alloc zero50) (fun v w' h => gr_trans (gt2) h.2.2) ?_
            rintro _ v3 ⟨rfl, hBa, gs3⟩
            have hlta := hBa.lt
            have gz3 := gs3.size
            have gt3 : w5.grownBy v3 none := gr_trans (gt2) gs3
            refine WA.split [10] (by kernel_rfl) (by kernel_rfl) ?_
            · refine WI.call rfl rfl wants_none rfl rfl (made_fn na R cr r v3 (hRR.grown gt3) hDr (by omega)) (fun v w' h w2 e => gr_eqv (gr_trans (gt3) h.2) e) ?_
              rintro r1 v4 ⟨hNr, gs4⟩
              have gz4 := gs4.size
              have gt4 : w5.grownBy v4 none := gr_trans (gt3) gs4
              exact WA.done4 _ _ q1 r1 (by kernel_rfl) ⟨(hBa.keep gs4 (by simp)), ((hBb.keep gs3 (by simp)).keep gs4 (by simp)), (((hNq.grown gs2).grown gs3).grown gs4), hNr, by omega, by omega, by omega, gt4⟩ (by repeat (first | exact Sub.nil | refine Sub.cons rfl ?_))
      · refine WI.put rfl rfl rfl (Eff.alloc zero50) (fun v w' h => gr_trans (gr_refl _ _) h.2.2) ?_
        rintro _ v1 ⟨rfl, hBa, gs1⟩
        have hlta := hBa.lt
        have gz1 := gs1.size
        have gt1 : w5.grownBy v1 none := gr_trans (gr_refl _ _) gs1
        refine WA.split [6, 12] (by kernel_rfl) (by kernel_rfl) ⟨?_, ?_⟩
        · refine WI.call rfl rfl wants_none rfl rfl (made_fn (na != nb) Q cq q v1 (hRQ.grown gt1) hDq (by omega)) (fun v w' h w2 e => gr_eqv (gr_trans (gt1) h.2) e) ?_
          rintro q1 v2 ⟨hNq, gs2⟩
          have gz2 := gs2.size
          have gt2 : w5.grownBy v2 none := gr_trans (gt1) gs2
          refine WA.split [10, 12] (by kernel_rfl) (by kernel_rfl) ⟨?_, ?_⟩
          · refine WI.call rfl rfl wants_none rfl rfl (made_fn na R cr r v2 (hRR.grown gt2) hDr (by omega)) (fun v w' h w2 e => gr_eqv (gr_trans (gt2) h.2) e) ?_
            rintro r1 v3 ⟨hNr, gs3⟩
            have gz3 := gs3.size
            have gt3 : w5.grownBy v3 none := gr_trans (gt2) gs3
            refine WA.split [12] (by kernel_rfl) (by kernel_rfl) ?_
            · refine WI.put rfl rfl rfl (Eff.alloc zero50) (fun v w' h => gr_trans (gt3) h.2.2) ?_
              rintro _ v4 ⟨rfl, hBb, gs4⟩
              have hltb := hBb.lt
              have gz4 := gs4.size
              have gt4 : w5.grownBy v4 none := gr_trans (gt3) gs4
              exact WA.done4 _ _ q1 r1 (by kernel_rfl) ⟨(((hBa.keep gs2 (by simp)).keep gs3 (by simp)).keep gs4 (by simp)), hBb, ((hNq.grown gs3).grown gs4), (hNr.grown gs4), by omega, by omega, by omega, gt4⟩ (by repeat (first | exact Sub.nil | refine Sub.cons rfl ?_))
          · refine WI.put rfl rfl rfl (Eff.alloc zero50) (fun v w' h => gr_trans (gt2) h.2.2) ?_
            rintro _ v3 ⟨rfl, hBb, gs3⟩
            have hltb := hBb.lt
            have gz3 := gs3.size
            have gt3 : w5.grownBy v3 none := gr_trans (gt2) gs3
            refine WA.split [10] (by kernel_rfl) (by kernel_rfl) ?_
            · refine WI.call rfl rfl wants_none rfl rfl (made_fn na R cr r v3 (hRR.grown gt3) hDr (by omega)) (fun v w' h w2 e => gr_eqv (gr_trans (gt3) h.2) e) ?_
              rintro r1 v4 ⟨hNr, gs4⟩
              have gz4 := gs4.size
              have gt4 : w5.grownBy v4 none := gr_trans (gt3) gs4
              exact WA.done4 _ _ q1 r1 (by kernel_rfl) ⟨(((hBa.keep gs2 (by simp)).keep gs3 (by simp)).keep gs4 (by simp)), (hBb.keep gs4 (by simp)), ((hNq.grown gs3).grown gs4), hNr, by omega, by omega, by omega, gt4⟩ (by repeat (first | exact Sub.nil | refine Sub.cons rfl ?_))
        · refine WI.put rfl rfl rfl (Eff.alloc zero50) (fun v w' h => gr_trans (gt1) h.2.2) ?_
          rintro _ v2 ⟨rfl, hBb, gs2⟩
          have hltb := hBb.lt
          have gz2 := gs2.size
          have gt2 : w5.grownBy v2 none := gr_trans (gt1) gs2
          refine WA.split [6] (by kernel_rfl) (by kernel_rfl) ?_
          · refine WI.call rfl rfl wants_none rfl rfl (made_fn (na != nb) Q cq q v2 (hRQ.grown gt2) hDq (by omega)) (fun v w' h w2 e => gr_eqv (gr_trans (gt2) h.2) e) ?_
            rintro q1 v3 ⟨hNq, gs3⟩
            have gz3 := gs3.size
            have gt3 : w5.grownBy v3 none := gr_trans (gt2) gs3
            refine WA.split [10] (by kernel_rfl) (by kernel_rfl) ?_
            · refine WI.call rfl rfl wants_none rfl rfl (made_fn na R cr r v3 (hRR.grown gt3) hDr (by omega)) (fun v w' h w2 e => gr_eqv (gr_trans (gt3) h.2) e) ?_
              rintro r1 v4 ⟨hNr, gs4⟩
              have gz4 := gs4.size
              have gt4 : w5.grownBy v4 none := gr_trans (gt3) gs4
              exact WA.done4 _ _ q1 r1 (by kernel_rfl) ⟨(((hBa.keep gs2 (by simp)).keep gs3 (by simp)).keep gs4 (by simp)), ((hBb.keep gs3 (by simp)).keep gs4 (by simp)), (hNq.grown gs4), hNr, by omega, by omega, by omega, gt4⟩ (by repeat (first | exact Sub.nil | refine Sub.cons rfl ?_))
      · refine WI.put rfl rfl rfl (Eff.alloc zero50) (fun v w' h => gr_trans (gr_refl _ _) h.2.2) ?_
        rintro _ v1 ⟨rfl, hBb, gs1⟩
        have hltb := hBb.lt
        have gz1 := gs1.size
        have gt1 : w5.grownBy v1 none := gr_trans (gr_refl _ _) gs1
        refine WA.split [6, 11] (by kernel_rfl) (by kernel_rfl) ⟨?_, ?_⟩
        · refine WI.call rfl rfl wants_none rfl rfl (made_fn (na != nb) Q cq q v1 (hRQ.grown gt1) hDq (by omega)) (fun v w' h w2 e => gr_eqv (gr_trans (gt1) h.2) e) ?_
          rintro q1 v2 ⟨hNq, gs2⟩
          have gz2 := gs2.size
          have gt2 : w5.grownBy v2 none := gr_trans (gt1) gs2
          refine WA.split [10, 11] (by kernel_rfl) (by kernel_rfl) ⟨?_, ?_⟩
          · refine WI.call rfl rfl wants_none rfl rfl (made_fn na R cr r v2 (hRR.grown gt2) hDr (by omega)) (fun v w' h w2 e => gr_eqv (gr_trans (gt2) h.2) e) ?_
            rintro r1 v3 ⟨hNr, gs3⟩
            have gz3 := gs3.size
            have gt3 : w5.grownBy v3 none := gr_trans (gt2) gs3
            refine WA.split [11] (by kernel_rfl) (by kernel_rfl) ?_
            · refine WI.put rfl rfl rfl (Eff.alloc zero50) (fun v w' h => gr_trans (gt3) h.2.2) ?_
              rintro _ v4 ⟨rfl, hBa, gs4⟩
              have hlta := hBa.lt
              have gz4 := gs4.size
              have gt4 : w5.grownBy v4 none := gr_trans (gt3) gs4
              exact WA.done4 _ _ q1 r1 (by kernel_rfl) ⟨hBa, (((hBb.keep gs2 (by simp)).keep gs3 (by simp)).keep gs4 (by simp)), ((hNq.grown gs3).grown gs4), (hNr.grown gs4), by omega, by omega, by omega, gt4⟩ (by repeat (first | exact Sub.nil | refine Sub.cons rfl ?_))
          · refine WI.put rfl rfl rfl (Eff.alloc zero50) (fun v w' h => gr_trans (gt2) h.2.2) ?_
            rintro _ v3 ⟨rfl, hBa, gs3⟩
            have hlta := hBa.lt
            have gz3 := gs3.size
            have gt3 : w5.grownBy v3 none := gr_trans (gt2) gs3
            refine WA.split [10] (by kernel_rfl) (by kernel_rfl) ?_
            · refine WI.call rfl rfl wants_none rfl rfl (made_fn na R cr r v3 (hRR.grown gt3) hDr (by omega)) (fun v w' h w2 e => gr_eqv (gr_trans (gt3) h.2) e) ?_
              rintro r1 v4 ⟨hNr, gs4⟩
              have gz4 := gs4.size
              have gt4 : w5.grownBy v4 none := gr_trans (gt3) gs4
              exact WA.done4 _ _ q1 r1 (by kernel_rfl) ⟨(hBa.keep gs4 (by simp)), (((hBb.keep gs2 (by simp)).keep gs3 (by simp)).keep gs4 (by simp)), ((hNq.grown gs3).grown gs4), hNr, by omega, by omega, by omega, gt4⟩ (by repeat (first | exact Sub.nil | refine Sub.cons rfl ?_))
        · refine WI.put rfl rfl rfl (Eff.alloc zero50) (fun v w' h => gr_trans (gt1) h.2.2) ?_
          rintro _ v2 ⟨rfl, hBa, gs2⟩
          have hlta := hBa.lt
          have gz2 := gs2.size
          have gt2 : w5.grownBy v2 none := gr_trans (gt1) gs2
          refine WA.split [6] (by kernel_rfl) (by kernel_rfl) ?_
          · refine WI.call rfl rfl wants_none rfl rfl (made_fn (na != nb) Q cq q v2 (hRQ.grown gt2) hDq (by omega)) (fun v w' h w2 e => gr_eqv (gr_trans (gt2) h.2) e) ?_
            rintro q1 v3 ⟨hNq, gs3⟩
            have gz3 := gs3.size
            have gt3 : w5.grownBy v3 none := gr_trans (gt2) gs3
            refine WA.split [10] (by kernel_rfl) (by kernel_rfl) ?_
            · refine WI.call rfl rfl wants_none rfl rfl (made_fn na R cr r v3 (hRR.grown gt3) hDr (by omega)) (fun v w' h w2 e => gr_eqv (gr_trans (gt3) h.2) e) ?_
              rintro r1 v4 ⟨hNr, gs4⟩
              have gz4 := gs4.size
              have gt4 : w5.grownBy v4 none := gr_trans (gt3) gs4
              exact WA.done4 _ _ q1 r1 (by kernel_rfl) ⟨((hBa.keep gs3 (by simp)).keep gs4 (by simp)), (((hBb.keep gs2 (by simp)).keep gs3 (by simp)).keep gs4 (by simp)), (hNq.grown gs4), hNr, by omega, by omega, by omega, gt4⟩ (by repeat (first | exact Sub.nil | refine Sub.cons rfl ?_))
    rintro g9 g10 q1 r1 w9 ⟨hB89, hB9, hN69, hN79, hne9, hge9, hge10, hg59⟩
    have hz5 := hg5.size
    have hlt8 := hB89.lt
    have hlt9 := hB9.lt
    obtain ⟨a, b, rfl, hoa, hob⟩ := hN69.agg
    refine WL.storeW (vs := [a, b]) tab_ok rfl rfl rfl (by intro u hu; simp at hu; rcases hu with rfl | rfl <;> assumption) hB89 rfl rfl (fun wa hBa hga => ?_)
    have hg5a := gr_new hg59 hga (by omega)
    have hBa10 := hB9.keep hga (by simp; omega)
    have hN7a := hN79.stored hB89 zero_no hga
    have hN6a := hN69.stored hB89 zero_no hga
    obtain ⟨nr, Ar, cr1, lr, rfl, hR7, hD7, hC7, hl7, hn7, hz7⟩ := hN7a
    have hN7a : Nm wa (.agg ⟨[.bool nr, .slice Ar lr.length cr1]⟩) (bif na then -(val r : Int) else (val r : Int)) r.length := ⟨nr, Ar, cr1, lr, rfl, hR7, hD7, hC7, hl7, hn7, hz7⟩
    refine WL.storeW (vs := [.bool nr, .slice Ar lr.length cr1]) tab_ok rfl rfl rfl (by intro u hu; simp at hu; rcases hu with rfl | rfl <;> rfl) hBa10 rfl rfl (fun wb hBb hgb => ?_)
    have hg5b := gr_new hg5a hgb (by omega)
    have hBab := hBa.keep hgb (by simp; omega)
    have hN6b := hN6a.stored hBa10 zero_no hgb
    have hN7b := hN7a.stored hBa10 zero_no hgb
    have hlr : lr = [] ↔ val r = 0 := by
      rw [← val_zero hC7]
      cases na <;> cases nr <;> simp at hz7 <;> omega
    have hB1b := hB15.keep hg5b (by simp)
    have hB2b := hB25.keep hg5b (by simp)
    have hfl := floor_of na nb (val la) (val lb) (val q) (val r) hv hvr
    have hfo := floor_off na nb (val la) (val lb) (val q) (val r) hv hvr
    rw [← hy] at hfl hfo
    have hgx : w.grownBy wb none := gr_trans (gr_trans hg14 hg5) hg5b
    have hB3b := (hB34.keep hg5 (by simp)).keep hg5b (by simp)
    have hB4b := (hB4.keep hg5 (by simp)).keep hg5b (by simp)
    have hq1 : q.length ≤ m := by omega
    have hr1 : r.length ≤ m := by omega
    clear hga hgb hg59 hg5a
    repeat (first | refine WL.y rfl (Yld.bload tab_ok hBb rfl rfl rfl) ?_ | refine WC.seq ?_ | refine WC.block ?_ | refine WC.region ?_ | refine WL.nil ?_ | refine WX.then_normal ?_ | refine WC.skip ?_ | refine WC.exit ?_ | refine WC.ret ?_ | refine WX.then_exit ?_ | refine WX.then_ret ?_ | refine WX.block_normal ?_ | refine WX.block_ret ?_ | refine WX.block_same ?_ | refine WX.block_other rfl ?_ | refine WC.label ?_ | refine WC.scope ?_ | refine WX.scope_normal ?_ | refine WX.scope_ret ?_ | refine WX.scope_exit ?_ | refine WL.y rfl (Yld.add rfl rfl (by simp only [In]; omega)) ?_ | refine WL.y rfl (Yld.sub rfl rfl (by simp only [In]; omega)) ?_ | refine WL.y rfl (Yld.mul rfl rfl (by simp only [In]; omega)) ?_ | refine WL.y rfl (Yld.convB tab_ok rfl rfl rfl rfl) ?_ | refine WL.y rfl (Yld.conv tab_ok rfl rfl rfl (by simp only [In]; omega)) ?_ | refine WL.y rfl (Yld.quo rfl rfl (by omega) (by omega) (by simp only [In]; omega)) ?_ | refine WL.y rfl (Yld.rem rfl rfl (by omega) (by omega)) ?_ | refine WL.y rfl (Yld.shl rfl rfl (by omega)) ?_ | refine WL.y rfl (Yld.shr rfl rfl (by omega)) ?_ | refine WL.y rfl (Yld.pure tab_ok rfl) ?_ | refine WL.y rfl (Yld.fld flds_ok rfl rfl rfl) ?_ | refine WL.y rfl (Yld.max2 rfl rfl) ?_ | refine WL.y rfl (Yld.min2 rfl rfl) ?_ | refine WL.y rfl (Yld.pickV rfl rfl rfl) ?_ | refine WL.gno rfl rfl rfl rfl ?_ | refine WL.gyes rfl rfl rfl rfl (Yld.add rfl rfl (by simp only [In]; omega)) ?_ | refine WL.gyes rfl rfl rfl rfl (Yld.sub rfl rfl (by simp only [In]; omega)) ?_ | refine WL.gyes rfl rfl rfl rfl (Yld.mul rfl rfl (by simp only [In]; omega)) ?_ | refine WL.gyes rfl rfl rfl rfl (Yld.convB tab_ok rfl rfl rfl rfl) ?_ | refine WL.gyes rfl rfl rfl rfl (Yld.conv tab_ok rfl rfl rfl (by simp only [In]; omega)) ?_ | refine WL.gyes rfl rfl rfl rfl (Yld.quo rfl rfl (by omega) (by omega) (by simp only [In]; omega)) ?_ | refine WL.gyes rfl rfl rfl rfl (Yld.rem rfl rfl (by omega) (by omega)) ?_ | refine WL.gyes rfl rfl rfl rfl (Yld.shl rfl rfl (by omega)) ?_ | refine WL.gyes rfl rfl rfl rfl (Yld.shr rfl rfl (by omega)) ?_ | refine WL.gyes rfl rfl rfl rfl (Yld.pure tab_ok rfl) ?_ | refine WL.gyes rfl rfl rfl rfl (Yld.fld flds_ok rfl rfl rfl) ?_ | refine WL.gyes rfl rfl rfl rfl (Yld.max2 rfl rfl) ?_ | refine WL.gyes rfl rfl rfl rfl (Yld.min2 rfl rfl) ?_ | refine WL.gyes rfl rfl rfl rfl (Yld.pickV rfl rfl rfl) ?_)
    generalize hbl : decide ((0 : Int) < (lr.length : Int)) = bl
    cases bl
    · simp only [decide_eq_false_iff_not] at hbl
      have hr0 : val r = 0 := hlr.mp (List.length_eq_zero_iff.mp (by omega))
      repeat (first | refine WC.seq ?_ | refine WC.block ?_ | refine WC.region ?_ | refine WL.nil ?_ | refine WX.then_normal ?_ | refine WC.skip ?_ | refine WC.exit ?_ | refine WC.ret ?_ | refine WX.then_exit ?_ | refine WX.then_ret ?_ | refine WX.block_normal ?_ | refine WX.block_ret ?_ | refine WX.block_same ?_ | refine WX.block_other rfl ?_ | refine WC.label ?_ | refine WC.scope ?_ | refine WX.scope_normal ?_ | refine WX.scope_ret ?_ | refine WX.scope_exit ?_ | refine WL.y rfl (Yld.add rfl rfl (by simp only [In]; omega)) ?_ | refine WL.y rfl (Yld.sub rfl rfl (by simp only [In]; omega)) ?_ | refine WL.y rfl (Yld.mul rfl rfl (by simp only [In]; omega)) ?_ | refine WL.y rfl (Yld.convB tab_ok rfl rfl rfl rfl) ?_ | refine WL.y rfl (Yld.conv tab_ok rfl rfl rfl (by simp only [In]; omega)) ?_ | refine WL.y rfl (Yld.quo rfl rfl (by omega) (by omega) (by simp only [In]; omega)) ?_ | refine WL.y rfl (Yld.rem rfl rfl (by omega) (by omega)) ?_ | refine WL.y rfl (Yld.shl rfl rfl (by omega)) ?_ | refine WL.y rfl (Yld.shr rfl rfl (by omega)) ?_ | refine WL.y rfl (Yld.pure tab_ok rfl) ?_ | refine WL.y rfl (Yld.fld flds_ok rfl rfl rfl) ?_ | refine WL.y rfl (Yld.max2 rfl rfl) ?_ | refine WL.y rfl (Yld.min2 rfl rfl) ?_ | refine WL.y rfl (Yld.pickV rfl rfl rfl) ?_ | refine WL.gno rfl rfl rfl rfl ?_ | refine WL.gyes rfl rfl rfl rfl (Yld.add rfl rfl (by simp only [In]; omega)) ?_ | refine WL.gyes rfl rfl rfl rfl (Yld.sub rfl rfl (by simp only [In]; omega)) ?_ | refine WL.gyes rfl rfl rfl rfl (Yld.mul rfl rfl (by simp only [In]; omega)) ?_ | refine WL.gyes rfl rfl rfl rfl (Yld.convB tab_ok rfl rfl rfl rfl) ?_ | refine WL.gyes rfl rfl rfl rfl (Yld.conv tab_ok rfl rfl rfl (by simp only [In]; omega)) ?_ | refine WL.gyes rfl rfl rfl rfl (Yld.quo rfl rfl (by omega) (by omega) (by simp only [In]; omega)) ?_ | refine WL.gyes rfl rfl rfl rfl (Yld.rem rfl rfl (by omega) (by omega)) ?_ | refine WL.gyes rfl rfl rfl rfl (Yld.shl rfl rfl (by omega)) ?_ | refine WL.gyes rfl rfl rfl rfl (Yld.shr rfl rfl (by omega)) ?_ | refine WL.gyes rfl rfl rfl rfl (Yld.pure tab_ok rfl) ?_ | refine WL.gyes rfl rfl rfl rfl (Yld.fld flds_ok rfl rfl rfl) ?_ | refine WL.gyes rfl rfl rfl rfl (Yld.max2 rfl rfl) ?_ | refine WL.gyes rfl rfl rfl rfl (Yld.min2 rfl rfl) ?_ | refine WL.gyes rfl rfl rfl rfl (Yld.pickV rfl rfl rfl) ?_)
      refine WC.mergeW (S := Unit) (fun _ => [(9, .pointer (some ⟨g9, 0, none⟩)), (10, .pointer (some ⟨g10, 0, none⟩)), (4, .pointer (some ⟨g3, 0, none⟩)), (5, .pointer (some ⟨g4, 0, none⟩))]) (fun _ w' => ∃ a' b' c' d' qz rz, Bl w' g9 50 [a', b'] ∧ Bl w' g10 50 [c', d'] ∧ a'.oneCell' = true ∧ b'.oneCell' = true ∧ c'.oneCell' = true ∧ d'.oneCell' = true ∧ Nm w' (.agg ⟨[a', b']⟩) qz (m + 4) ∧ Nm w' (.agg ⟨[c', d']⟩) rz (m + 4) ∧ Floor (bif na then -(val la : Int) else (val la : Int)) y qz rz ∧ w.grownBy w' none ∧ Bl w' g3 50 [.bool false, .slice none 0 0] ∧ Bl w' g4 50 [.bool false, .slice none 0 0]) rfl (fun h => by cases h) (fun _ Q' hQ => ?_) ?_
      · repeat (first | refine WC.seq ?_ | refine WC.block ?_ | refine WC.region ?_ | refine WL.nil ?_ | refine WX.then_normal ?_ | refine WC.skip ?_ | refine WC.exit ?_ | refine WC.ret ?_ | refine WX.then_exit ?_ | refine WX.then_ret ?_ | refine WX.block_normal ?_ | refine WX.block_ret ?_ | refine WX.block_same ?_ | refine WX.block_other rfl ?_ | refine WC.label ?_ | refine WC.scope ?_ | refine WX.scope_normal ?_ | refine WX.scope_ret ?_ | refine WX.scope_exit ?_ | refine WL.y rfl (Yld.add rfl rfl (by simp only [In]; omega)) ?_ | refine WL.y rfl (Yld.sub rfl rfl (by simp only [In]; omega)) ?_ | refine WL.y rfl (Yld.mul rfl rfl (by simp only [In]; omega)) ?_ | refine WL.y rfl (Yld.convB tab_ok rfl rfl rfl rfl) ?_ | refine WL.y rfl (Yld.conv tab_ok rfl rfl rfl (by simp only [In]; omega)) ?_ | refine WL.y rfl (Yld.quo rfl rfl (by omega) (by omega) (by simp only [In]; omega)) ?_ | refine WL.y rfl (Yld.rem rfl rfl (by omega) (by omega)) ?_ | refine WL.y rfl (Yld.shl rfl rfl (by omega)) ?_ | refine WL.y rfl (Yld.shr rfl rfl (by omega)) ?_ | refine WL.y rfl (Yld.pure tab_ok rfl) ?_ | refine WL.y rfl (Yld.fld flds_ok rfl rfl rfl) ?_ | refine WL.y rfl (Yld.max2 rfl rfl) ?_ | refine WL.y rfl (Yld.min2 rfl rfl) ?_ | refine WL.y rfl (Yld.pickV rfl rfl rfl) ?_ | refine WL.gno rfl rfl rfl rfl ?_ | refine WL.gyes rfl rfl rfl rfl (Yld.add rfl rfl (by simp only [In]; omega)) ?_ | refine WL.gyes rfl rfl rfl rfl (Yld.sub rfl rfl (by simp only [In]; omega)) ?_ | refine WL.gyes rfl rfl rfl rfl (Yld.mul rfl rfl (by simp only [In]; omega)) ?_ | refine WL.gyes rfl rfl rfl rfl (Yld.convB tab_ok rfl rfl rfl rfl) ?_ | refine WL.gyes rfl rfl rfl rfl (Yld.conv tab_ok rfl rfl rfl (by simp only [In]; omega)) ?_ | refine WL.gyes rfl rfl rfl rfl (Yld.quo rfl rfl (by omega) (by omega) (by simp only [In]; omega)) ?_ | refine WL.gyes rfl rfl rfl rfl (Yld.rem rfl rfl (by omega) (by omega)) ?_ | refine WL.gyes rfl rfl rfl rfl (Yld.shl rfl rfl (by omega)) ?_ | refine WL.gyes rfl rfl rfl rfl (Yld.shr rfl rfl (by omega)) ?_ | refine WL.gyes rfl rfl rfl rfl (Yld.pure tab_ok rfl) ?_ | refine WL.gyes rfl rfl rfl rfl (Yld.fld flds_ok rfl rfl rfl) ?_ | refine WL.gyes rfl rfl rfl rfl (Yld.max2 rfl rfl) ?_ | refine WL.gyes rfl rfl rfl rfl (Yld.min2 rfl rfl) ?_ | refine WL.gyes rfl rfl rfl rfl (Yld.pickV rfl rfl rfl) ?_)
        exact WX.weaken (by repeat (first | exact Sub.nil | refine Sub.cons rfl ?_)) (hQ () wb ⟨a, b, _, _, _, _, hBab, hBb, hoa, hob, rfl, rfl, hN6b.mono (by omega), hN7b.mono (by omega), hfl (.inr hr0), hgx, hB3b, hB4b⟩)
      · rintro _ wz ⟨a', b', c', d', qz, rz, hBq, hBr, ho1, ho2, ho3, ho4, hNq, hNr, hFl, hgz, hB3z, hB4z⟩
        repeat (first | refine WC.seq ?_ | refine WC.block ?_ | refine WC.region ?_ | refine WL.nil ?_ | refine WX.then_normal ?_ | refine WC.skip ?_ | refine WC.exit ?_ | refine WC.ret ?_ | refine WX.then_exit ?_ | refine WX.then_ret ?_ | refine WX.block_normal ?_ | refine WX.block_ret ?_ | refine WX.block_same ?_ | refine WX.block_other rfl ?_ | refine WC.label ?_ | refine WC.scope ?_ | refine WX.scope_normal ?_ | refine WX.scope_ret ?_ | refine WX.scope_exit ?_ | refine WL.y rfl (Yld.add rfl rfl (by simp only [In]; omega)) ?_ | refine WL.y rfl (Yld.sub rfl rfl (by simp only [In]; omega)) ?_ | refine WL.y rfl (Yld.mul rfl rfl (by simp only [In]; omega)) ?_ | refine WL.y rfl (Yld.convB tab_ok rfl rfl rfl rfl) ?_ | refine WL.y rfl (Yld.conv tab_ok rfl rfl rfl (by simp only [In]; omega)) ?_ | refine WL.y rfl (Yld.quo rfl rfl (by omega) (by omega) (by simp only [In]; omega)) ?_ | refine WL.y rfl (Yld.rem rfl rfl (by omega) (by omega)) ?_ | refine WL.y rfl (Yld.shl rfl rfl (by omega)) ?_ | refine WL.y rfl (Yld.shr rfl rfl (by omega)) ?_ | refine WL.y rfl (Yld.pure tab_ok rfl) ?_ | refine WL.y rfl (Yld.fld flds_ok rfl rfl rfl) ?_ | refine WL.y rfl (Yld.max2 rfl rfl) ?_ | refine WL.y rfl (Yld.min2 rfl rfl) ?_ | refine WL.y rfl (Yld.pickV rfl rfl rfl) ?_ | refine WL.gno rfl rfl rfl rfl ?_ | refine WL.gyes rfl rfl rfl rfl (Yld.add rfl rfl (by simp only [In]; omega)) ?_ | refine WL.gyes rfl rfl rfl rfl (Yld.sub rfl rfl (by simp only [In]; omega)) ?_ | refine WL.gyes rfl rfl rfl rfl (Yld.mul rfl rfl (by simp only [In]; omega)) ?_ | refine WL.gyes rfl rfl rfl rfl (Yld.convB tab_ok rfl rfl rfl rfl) ?_ | refine WL.gyes rfl rfl rfl rfl (Yld.conv tab_ok rfl rfl rfl (by simp only [In]; omega)) ?_ | refine WL.gyes rfl rfl rfl rfl (Yld.quo rfl rfl (by omega) (by omega) (by simp only [In]; omega)) ?_ | refine WL.gyes rfl rfl rfl rfl (Yld.rem rfl rfl (by omega) (by omega)) ?_ | refine WL.gyes rfl rfl rfl rfl (Yld.shl rfl rfl (by omega)) ?_ | refine WL.gyes rfl rfl rfl rfl (Yld.shr rfl rfl (by omega)) ?_ | refine WL.gyes rfl rfl rfl rfl (Yld.pure tab_ok rfl) ?_ | refine WL.gyes rfl rfl rfl rfl (Yld.fld flds_ok rfl rfl rfl) ?_ | refine WL.gyes rfl rfl rfl rfl (Yld.max2 rfl rfl) ?_ | refine WL.gyes rfl rfl rfl rfl (Yld.min2 rfl rfl) ?_ | refine WL.gyes rfl rfl rfl rfl (Yld.pickV rfl rfl rfl) ?_)
        refine WC.chain (fun k => Nat.blt k 2 || Nat.beq k 4) (fun w' => Bl w' g9 50 [a', b'] ∧ Bl w' g10 50 [c', d']) mixed (by kernel_rfl) (fun w' e => ⟨bl_eqv e hBq, bl_eqv e hBr⟩) ?_
        refine WK.y rfl rfl (fun w' h => Yld.bagg (vs := [a', b']) tab_ok h.1 rfl rfl rfl rfl) ?_
        refine WK.y rfl rfl (fun w' h => Yld.bagg (vs := [c', d']) tab_ok h.2 rfl rfl rfl rfl) ?_
        refine WK.eff rfl (Ef0.storeW (vs := [a', b']) tab_ok rfl rfl rfl (by intro u hu; simp at hu; rcases hu with rfl | rfl <;> assumption) hB3z rfl rfl) (fun w' h => ⟨hBq.keep h.2 (by simp; omega), hBr.keep h.2 (by simp; omega)⟩) ?_
        rintro wy ⟨hBy3, hgy⟩
        have hB4y := hB4z.keep hgy (by simp; omega)
        have hBqy := hBq.keep hgy (by simp; omega)
        have hBry := hBr.keep hgy (by simp; omega)
        refine WK.eff rfl (Ef0.storeW (vs := [c', d']) tab_ok rfl rfl rfl (by intro u hu; simp at hu; rcases hu with rfl | rfl <;> assumption) hB4y rfl rfl) (fun w' h => ⟨hBqy.keep h.2 (by simp; omega), hBry.keep h.2 (by simp; omega)⟩) ?_
        rintro wx ⟨hBx4, hgx2⟩
        repeat (first | refine WK.y rfl rfl (fun _ _ => Yld.add rfl rfl (by simp only [In]; omega)) ?_ | refine WK.y rfl rfl (fun _ _ => Yld.sub rfl rfl (by simp only [In]; omega)) ?_ | refine WK.y rfl rfl (fun _ _ => Yld.mul rfl rfl (by simp only [In]; omega)) ?_ | refine WK.y rfl rfl (fun _ _ => Yld.convB tab_ok rfl rfl rfl rfl) ?_ | refine WK.y rfl rfl (fun _ _ => Yld.conv tab_ok rfl rfl rfl (by simp only [In]; omega)) ?_ | refine WK.y rfl rfl (fun _ _ => Yld.quo rfl rfl (by omega) (by omega) (by simp only [In]; omega)) ?_ | refine WK.y rfl rfl (fun _ _ => Yld.rem rfl rfl (by omega) (by omega)) ?_ | refine WK.y rfl rfl (fun _ _ => Yld.shl rfl rfl (by omega)) ?_ | refine WK.y rfl rfl (fun _ _ => Yld.shr rfl rfl (by omega)) ?_ | refine WK.y rfl rfl (fun _ _ => Yld.pure tab_ok rfl) ?_)
        refine WK.nil ?_
        repeat (first | refine WC.seq ?_ | refine WC.block ?_ | refine WC.region ?_ | refine WL.nil ?_ | refine WX.then_normal ?_ | refine WC.skip ?_ | refine WC.exit ?_ | refine WC.ret ?_ | refine WX.then_exit ?_ | refine WX.then_ret ?_ | refine WX.block_normal ?_ | refine WX.block_ret ?_ | refine WX.block_same ?_ | refine WX.block_other rfl ?_ | refine WC.label ?_ | refine WC.scope ?_ | refine WX.scope_normal ?_ | refine WX.scope_ret ?_ | refine WX.scope_exit ?_ | refine WL.y rfl (Yld.add rfl rfl (by simp only [In]; omega)) ?_ | refine WL.y rfl (Yld.sub rfl rfl (by simp only [In]; omega)) ?_ | refine WL.y rfl (Yld.mul rfl rfl (by simp only [In]; omega)) ?_ | refine WL.y rfl (Yld.convB tab_ok rfl rfl rfl rfl) ?_ | refine WL.y rfl (Yld.conv tab_ok rfl rfl rfl (by simp only [In]; omega)) ?_ | refine WL.y rfl (Yld.quo rfl rfl (by omega) (by omega) (by simp only [In]; omega)) ?_ | refine WL.y rfl (Yld.rem rfl rfl (by omega) (by omega)) ?_ | refine WL.y rfl (Yld.shl rfl rfl (by omega)) ?_ | refine WL.y rfl (Yld.shr rfl rfl (by omega)) ?_ | refine WL.y rfl (Yld.pure tab_ok rfl) ?_ | refine WL.y rfl (Yld.fld flds_ok rfl rfl rfl) ?_ | refine WL.y rfl (Yld.max2 rfl rfl) ?_ | refine WL.y rfl (Yld.min2 rfl rfl) ?_ | refine WL.y rfl (Yld.pickV rfl rfl rfl) ?_ | refine WL.gno rfl rfl rfl rfl ?_ | refine WL.gyes rfl rfl rfl rfl (Yld.add rfl rfl (by simp only [In]; omega)) ?_ | refine WL.gyes rfl rfl rfl rfl (Yld.sub rfl rfl (by simp only [In]; omega)) ?_ | refine WL.gyes rfl rfl rfl rfl (Yld.mul rfl rfl (by simp only [In]; omega)) ?_ | refine WL.gyes rfl rfl rfl rfl (Yld.convB tab_ok rfl rfl rfl rfl) ?_ | refine WL.gyes rfl rfl rfl rfl (Yld.conv tab_ok rfl rfl rfl (by simp only [In]; omega)) ?_ | refine WL.gyes rfl rfl rfl rfl (Yld.quo rfl rfl (by omega) (by omega) (by simp only [In]; omega)) ?_ | refine WL.gyes rfl rfl rfl rfl (Yld.rem rfl rfl (by omega) (by omega)) ?_ | refine WL.gyes rfl rfl rfl rfl (Yld.shl rfl rfl (by omega)) ?_ | refine WL.gyes rfl rfl rfl rfl (Yld.shr rfl rfl (by omega)) ?_ | refine WL.gyes rfl rfl rfl rfl (Yld.pure tab_ok rfl) ?_ | refine WL.gyes rfl rfl rfl rfl (Yld.fld flds_ok rfl rfl rfl) ?_ | refine WL.gyes rfl rfl rfl rfl (Yld.max2 rfl rfl) ?_ | refine WL.gyes rfl rfl rfl rfl (Yld.min2 rfl rfl) ?_ | refine WL.gyes rfl rfl rfl rfl (Yld.pickV rfl rfl rfl) ?_)
        exact WX.retcct tab_ok rfl rfl rfl (hBy3.keep hgx2 (by simp; omega)) rfl rfl rfl hBx4 rfl rfl ⟨⟨_, _, qz, rz, by rw [decide_eq_false hy0]; rfl, (hNq.stored hB3z zero_no hgy).stored hB4y zero_no hgx2, (hNr.stored hB3z zero_no hgy).stored hB4y zero_no hgx2, fun _ => hFl⟩, gr_new (gr_new hgz hgy (by omega)) hgx2 (by omega)⟩
    · simp only [decide_eq_true_eq] at hbl
      have hr0 : 0 < val r := by
        rcases Nat.eq_zero_or_pos (val r) with e | e
        · rw [hlr.mpr e] at hbl; simp at hbl
        · exact e
      repeat (first | refine WL.gyes rfl rfl rfl rfl (Yld.bload tab_ok hB1b rfl rfl rfl) ?_ | refine WL.gyes rfl rfl rfl rfl (Yld.bload tab_ok hB2b rfl rfl rfl) ?_ | refine WL.gyes rfl rfl rfl rfl (Yld.bneq hbt rfl rfl) ?_ | refine WC.seq ?_ | refine WC.block ?_ | refine WC.region ?_ | refine WL.nil ?_ | refine WX.then_normal ?_ | refine WC.skip ?_ | refine WC.exit ?_ | refine WC.ret ?_ | refine WX.then_exit ?_ | refine WX.then_ret ?_ | refine WX.block_normal ?_ | refine WX.block_ret ?_ | refine WX.block_same ?_ | refine WX.block_other rfl ?_ | refine WC.label ?_ | refine WC.scope ?_ | refine WX.scope_normal ?_ | refine WX.scope_ret ?_ | refine WX.scope_exit ?_ | refine WL.y rfl (Yld.add rfl rfl (by simp only [In]; omega)) ?_ | refine WL.y rfl (Yld.sub rfl rfl (by simp only [In]; omega)) ?_ | refine WL.y rfl (Yld.mul rfl rfl (by simp only [In]; omega)) ?_ | refine WL.y rfl (Yld.convB tab_ok rfl rfl rfl rfl) ?_ | refine WL.y rfl (Yld.conv tab_ok rfl rfl rfl (by simp only [In]; omega)) ?_ | refine WL.y rfl (Yld.quo rfl rfl (by omega) (by omega) (by simp only [In]; omega)) ?_ | refine WL.y rfl (Yld.rem rfl rfl (by omega) (by omega)) ?_ | refine WL.y rfl (Yld.shl rfl rfl (by omega)) ?_ | refine WL.y rfl (Yld.shr rfl rfl (by omega)) ?_ | refine WL.y rfl (Yld.pure tab_ok rfl) ?_ | refine WL.y rfl (Yld.fld flds_ok rfl rfl rfl) ?_ | refine WL.y rfl (Yld.max2 rfl rfl) ?_ | refine WL.y rfl (Yld.min2 rfl rfl) ?_ | refine WL.y rfl (Yld.pickV rfl rfl rfl) ?_ | refine WL.gno rfl rfl rfl rfl ?_ | refine WL.gyes rfl rfl rfl rfl (Yld.add rfl rfl (by simp only [In]; omega)) ?_ | refine WL.gyes rfl rfl rfl rfl (Yld.sub rfl rfl (by simp only [In]; omega)) ?_ | refine WL.gyes rfl rfl rfl rfl (Yld.mul rfl rfl (by simp only [In]; omega)) ?_ | refine WL.gyes rfl rfl rfl rfl (Yld.convB tab_ok rfl rfl rfl rfl) ?_ | refine WL.gyes rfl rfl rfl rfl (Yld.conv tab_ok rfl rfl rfl (by simp only [In]; omega)) ?_ | refine WL.gyes rfl rfl rfl rfl (Yld.quo rfl rfl (by omega) (by omega) (by simp only [In]; omega)) ?_ | refine WL.gyes rfl rfl rfl rfl (Yld.rem rfl rfl (by omega) (by omega)) ?_ | refine WL.gyes rfl rfl rfl rfl (Yld.shl rfl rfl (by omega)) ?_ | refine WL.gyes rfl rfl rfl rfl (Yld.shr rfl rfl (by omega)) ?_ | refine WL.gyes rfl rfl rfl rfl (Yld.pure tab_ok rfl) ?_ | refine WL.gyes rfl rfl rfl rfl (Yld.fld flds_ok rfl rfl rfl) ?_ | refine WL.gyes rfl rfl rfl rfl (Yld.max2 rfl rfl) ?_ | refine WL.gyes rfl rfl rfl rfl (Yld.min2 rfl rfl) ?_ | refine WL.gyes rfl rfl rfl rfl (Yld.pickV rfl rfl rfl) ?_)
      refine WC.mergeW (S := Unit) (fun _ => [(9, .pointer (some ⟨g9, 0, none⟩)), (10, .pointer (some ⟨g10, 0, none⟩)), (4, .pointer (some ⟨g3, 0, none⟩)), (5, .pointer (some ⟨g4, 0, none⟩))]) (fun _ w' => ∃ a' b' c' d' qz rz, Bl w' g9 50 [a', b'] ∧ Bl w' g10 50 [c', d'] ∧ a'.oneCell' = true ∧ b'.oneCell' = true ∧ c'.oneCell' = true ∧ d'.oneCell' = true ∧ Nm w' (.agg ⟨[a', b']⟩) qz (m + 4) ∧ Nm w' (.agg ⟨[c', d']⟩) rz (m + 4) ∧ Floor (bif na then -(val la : Int) else (val la : Int)) y qz rz ∧ w.grownBy w' none ∧ Bl w' g3 50 [.bool false, .slice none 0 0] ∧ Bl w' g4 50 [.bool false, .slice none 0 0]) rfl (fun h Q' hQ => ?_) (fun h Q' hQ => ?_) ?_
      · have hne : na ≠ nb := by intro e; subst e; simp at h
        repeat (first | refine WC.seq ?_ | refine WC.block ?_ | refine WC.region ?_ | refine WL.nil ?_ | refine WX.then_normal ?_ | refine WC.skip ?_ | refine WC.exit ?_ | refine WC.ret ?_ | refine WX.then_exit ?_ | refine WX.then_ret ?_ | refine WX.block_normal ?_ | refine WX.block_ret ?_ | refine WX.block_same ?_ | refine WX.block_other rfl ?_ | refine WC.label ?_ | refine WC.scope ?_ | refine WX.scope_normal ?_ | refine WX.scope_ret ?_ | refine WX.scope_exit ?_ | refine WL.y rfl (Yld.add rfl rfl (by simp only [In]; omega)) ?_ | refine WL.y rfl (Yld.sub rfl rfl (by simp only [In]; omega)) ?_ | refine WL.y rfl (Yld.mul rfl rfl (by simp only [In]; omega)) ?_ | refine WL.y rfl (Yld.convB tab_ok rfl rfl rfl rfl) ?_ | refine WL.y rfl (Yld.conv tab_ok rfl rfl rfl (by simp only [In]; omega)) ?_ | refine WL.y rfl (Yld.quo rfl rfl (by omega) (by omega) (by simp only [In]; omega)) ?_ | refine WL.y rfl (Yld.rem rfl rfl (by omega) (by omega)) ?_ | refine WL.y rfl (Yld.shl rfl rfl (by omega)) ?_ | refine WL.y rfl (Yld.shr rfl rfl (by omega)) ?_ | refine WL.y rfl (Yld.pure tab_ok rfl) ?_ | refine WL.y rfl (Yld.fld flds_ok rfl rfl rfl) ?_ | refine WL.y rfl (Yld.max2 rfl rfl) ?_ | refine WL.y rfl (Yld.min2 rfl rfl) ?_ | refine WL.y rfl (Yld.pickV rfl rfl rfl) ?_ | refine WL.gno rfl rfl rfl rfl ?_ | refine WL.gyes rfl rfl rfl rfl (Yld.add rfl rfl (by simp only [In]; omega)) ?_ | refine WL.gyes rfl rfl rfl rfl (Yld.sub rfl rfl (by simp only [In]; omega)) ?_ | refine WL.gyes rfl rfl rfl rfl (Yld.mul rfl rfl (by simp only [In]; omega)) ?_ | refine WL.gyes rfl rfl rfl rfl (Yld.convB tab_ok rfl rfl rfl rfl) ?_ | refine WL.gyes rfl rfl rfl rfl (Yld.conv tab_ok rfl rfl rfl (by simp only [In]; omega)) ?_ | refine WL.gyes rfl rfl rfl rfl (Yld.quo rfl rfl (by omega) (by omega) (by simp only [In]; omega)) ?_ | refine WL.gyes rfl rfl rfl rfl (Yld.rem rfl rfl (by omega) (by omega)) ?_ | refine WL.gyes rfl rfl rfl rfl (Yld.shl rfl rfl (by omega)) ?_ | refine WL.gyes rfl rfl rfl rfl (Yld.shr rfl rfl (by omega)) ?_ | refine WL.gyes rfl rfl rfl rfl (Yld.pure tab_ok rfl) ?_ | refine WL.gyes rfl rfl rfl rfl (Yld.fld flds_ok rfl rfl rfl) ?_ | refine WL.gyes rfl rfl rfl rfl (Yld.max2 rfl rfl) ?_ | refine WL.gyes rfl rfl rfl rfl (Yld.min2 rfl rfl) ?_ | refine WL.gyes rfl rfl rfl rfl (Yld.pickV rfl rfl rfl) ?_)
        refine WC.chainT 6 (fun k => Nat.beq k 0 || Nat.beq k 3 || Nat.beq k 4) (fun w' => wb.grownBy w' none) mixed (by kernel_rfl) (fun w' e => gr_eqv (gr_refl _ _) e) ?_
        have hNb3 : Nm wb (.agg ⟨[a, b]⟩) (bif na != nb then -(val q : Int) else (val q : Int)) (m + 3) := hN6b.mono (by omega)
        have hby := (hb'.grown hgx).mono (by omega : m ≤ m + 3)
        rw [hy] at hby
        refine WK.y rfl rfl (fun w' h => Yld.bagg (vs := [a, b]) tab_ok (hBab.keep h (by simp)) rfl rfl rfl rfl) ?_
        refine WK.call rfl wants_none rfl rfl (of_fn 1 wb (by omega) (by omega)) (fun v w' h w2 e => gr_eqv h.2 e) ?_
        rintro o1 v1 ⟨hNo, gs1⟩
        refine WK.call rfl wants_none rfl rfl (sub_fn _ _ _ 1 (m + 3) v1 (hNb3.grown gs1) (hNo.mono (by omega)) (by omega)) (fun v w' h w2 e => gr_eqv (gr_trans gs1 h.2) e) ?_
        rintro q2 v2 ⟨hNq2, gs2⟩
        refine WK.y rfl rfl (fun w' h => Yld.bagg (vs := [.bool nr, .slice Ar lr.length cr1]) tab_ok (hBb.keep h (by simp)) rfl rfl rfl rfl) ?_
        refine WK.y rfl rfl (fun w' h => Yld.bagg (vs := [.bool nb, .slice B lb.length cb]) tab_ok (hB2b.keep h (by simp)) rfl rfl rfl rfl) ?_
        have gt2 := gr_trans gs1 gs2
        refine WK.call rfl wants_none rfl rfl (add_fn _ _ _ _ (m + 3) v2 ((hN7b.mono (by omega)).grown gt2) (hby.grown gt2) (by omega)) (fun v w' h w2 e => gr_eqv (gr_trans gt2 h.2) e) ?_
        rintro r2 v3 ⟨hNr2, gs3⟩
        refine WK.tail ?_
        have gt3 := gr_trans gt2 gs3
        obtain ⟨a2, b2, rfl, hoa2, hob2⟩ := hNq2.agg
        obtain ⟨c2, d2, rfl, hoc2, hod2⟩ := hNr2.agg
        have hNq3 := hNq2.grown gs3
        refine WL.storeW (vs := [a2, b2]) tab_ok rfl rfl rfl (by intro u hu; simp at hu; rcases hu with rfl | rfl <;> assumption) (hBab.keep gt3 (by simp)) rfl rfl (fun v4 hB4v gs4 => ?_)
        refine WL.storeW (vs := [c2, d2]) tab_ok rfl rfl rfl (by intro u hu; simp at hu; rcases hu with rfl | rfl <;> assumption) ((hBb.keep gt3 (by simp)).keep gs4 (by simp; omega)) rfl rfl (fun v5 hB5v gs5 => ?_)
        repeat (first | refine WC.seq ?_ | refine WC.block ?_ | refine WC.region ?_ | refine WL.nil ?_ | refine WX.then_normal ?_ | refine WC.skip ?_ | refine WC.exit ?_ | refine WC.ret ?_ | refine WX.then_exit ?_ | refine WX.then_ret ?_ | refine WX.block_normal ?_ | refine WX.block_ret ?_ | refine WX.block_same ?_ | refine WX.block_other rfl ?_ | refine WC.label ?_ | refine WC.scope ?_ | refine WX.scope_normal ?_ | refine WX.scope_ret ?_ | refine WX.scope_exit ?_ | refine WL.y rfl (Yld.add rfl rfl (by simp only [In]; omega)) ?_ | refine WL.y rfl (Yld.sub rfl rfl (by simp only [In]; omega)) ?_ | refine WL.y rfl (Yld.mul rfl rfl (by simp only [In]; omega)) ?_ | refine WL.y rfl (Yld.convB tab_ok rfl rfl rfl rfl) ?_ | refine WL.y rfl (Yld.conv tab_ok rfl rfl rfl (by simp only [In]; omega)) ?_ | refine WL.y rfl (Yld.quo rfl rfl (by omega) (by omega) (by simp only [In]; omega)) ?_ | refine WL.y rfl (Yld.rem rfl rfl (by omega) (by omega)) ?_ | refine WL.y rfl (Yld.shl rfl rfl (by omega)) ?_ | refine WL.y rfl (Yld.shr rfl rfl (by omega)) ?_ | refine WL.y rfl (Yld.pure tab_ok rfl) ?_ | refine WL.y rfl (Yld.fld flds_ok rfl rfl rfl) ?_ | refine WL.y rfl (Yld.max2 rfl rfl) ?_ | refine WL.y rfl (Yld.min2 rfl rfl) ?_ | refine WL.y rfl (Yld.pickV rfl rfl rfl) ?_ | refine WL.gno rfl rfl rfl rfl ?_ | refine WL.gyes rfl rfl rfl rfl (Yld.add rfl rfl (by simp only [In]; omega)) ?_ | refine WL.gyes rfl rfl rfl rfl (Yld.sub rfl rfl (by simp only [In]; omega)) ?_ | refine WL.gyes rfl rfl rfl rfl (Yld.mul rfl rfl (by simp only [In]; omega)) ?_ | refine WL.gyes rfl rfl rfl rfl (Yld.convB tab_ok rfl rfl rfl rfl) ?_ | refine WL.gyes rfl rfl rfl rfl (Yld.conv tab_ok rfl rfl rfl (by simp only [In]; omega)) ?_ | refine WL.gyes rfl rfl rfl rfl (Yld.quo rfl rfl (by omega) (by omega) (by simp only [In]; omega)) ?_ | refine WL.gyes rfl rfl rfl rfl (Yld.rem rfl rfl (by omega) (by omega)) ?_ | refine WL.gyes rfl rfl rfl rfl (Yld.shl rfl rfl (by omega)) ?_ | refine WL.gyes rfl rfl rfl rfl (Yld.shr rfl rfl (by omega)) ?_ | refine WL.gyes rfl rfl rfl rfl (Yld.pure tab_ok rfl) ?_ | refine WL.gyes rfl rfl rfl rfl (Yld.fld flds_ok rfl rfl rfl) ?_ | refine WL.gyes rfl rfl rfl rfl (Yld.max2 rfl rfl) ?_ | refine WL.gyes rfl rfl rfl rfl (Yld.min2 rfl rfl) ?_ | refine WL.gyes rfl rfl rfl rfl (Yld.pickV rfl rfl rfl) ?_)
        have hBv3 := hBab.keep gt3 (by simp)
        have hBv4 := (hBb.keep gt3 (by simp)).keep gs4 (by simp; omega)
        have gz3 := gt3.size
        exact WX.weaken (by repeat (first | exact Sub.nil | refine Sub.cons rfl ?_)) (hQ () v5 ⟨a2, b2, c2, d2, _, _, hB4v.keep gs5 (by simp; omega), hB5v, hoa2, hob2, hoc2, hod2, (hNq3.stored hBv3 hN6b.no gs4).stored hBv4 hN7b.no gs5, (hNr2.stored hBv3 hN6b.no gs4).stored hBv4 hN7b.no gs5, by rw [hy]; rw [hy] at hfo; exact hfo hne hr0,
          gr_new (gr_new (gr_trans hgx gt3) gs4 (by omega)) gs5 (by omega), ((hB3b.keep gt3 (by simp)).keep gs4 (by simp; omega)).keep gs5 (by simp; omega), ((hB4b.keep gt3 (by simp)).keep gs4 (by simp; omega)).keep gs5 (by simp; omega)⟩)
      · have hne : na = nb := by cases na <;> cases nb <;> simp at h <;> rfl
        repeat (first | refine WC.seq ?_ | refine WC.block ?_ | refine WC.region ?_ | refine WL.nil ?_ | refine WX.then_normal ?_ | refine WC.skip ?_ | refine WC.exit ?_ | refine WC.ret ?_ | refine WX.then_exit ?_ | refine WX.then_ret ?_ | refine WX.block_normal ?_ | refine WX.block_ret ?_ | refine WX.block_same ?_ | refine WX.block_other rfl ?_ | refine WC.label ?_ | refine WC.scope ?_ | refine WX.scope_normal ?_ | refine WX.scope_ret ?_ | refine WX.scope_exit ?_ | refine WL.y rfl (Yld.add rfl rfl (by simp only [In]; omega)) ?_ | refine WL.y rfl (Yld.sub rfl rfl (by simp only [In]; omega)) ?_ | refine WL.y rfl (Yld.mul rfl rfl (by simp only [In]; omega)) ?_ | refine WL.y rfl (Yld.convB tab_ok rfl rfl rfl rfl) ?_ | refine WL.y rfl (Yld.conv tab_ok rfl rfl rfl (by simp only [In]; omega)) ?_ | refine WL.y rfl (Yld.quo rfl rfl (by omega) (by omega) (by simp only [In]; omega)) ?_ | refine WL.y rfl (Yld.rem rfl rfl (by omega) (by omega)) ?_ | refine WL.y rfl (Yld.shl rfl rfl (by omega)) ?_ | refine WL.y rfl (Yld.shr rfl rfl (by omega)) ?_ | refine WL.y rfl (Yld.pure tab_ok rfl) ?_ | refine WL.y rfl (Yld.fld flds_ok rfl rfl rfl) ?_ | refine WL.y rfl (Yld.max2 rfl rfl) ?_ | refine WL.y rfl (Yld.min2 rfl rfl) ?_ | refine WL.y rfl (Yld.pickV rfl rfl rfl) ?_ | refine WL.gno rfl rfl rfl rfl ?_ | refine WL.gyes rfl rfl rfl rfl (Yld.add rfl rfl (by simp only [In]; omega)) ?_ | refine WL.gyes rfl rfl rfl rfl (Yld.sub rfl rfl (by simp only [In]; omega)) ?_ | refine WL.gyes rfl rfl rfl rfl (Yld.mul rfl rfl (by simp only [In]; omega)) ?_ | refine WL.gyes rfl rfl rfl rfl (Yld.convB tab_ok rfl rfl rfl rfl) ?_ | refine WL.gyes rfl rfl rfl rfl (Yld.conv tab_ok rfl rfl rfl (by simp only [In]; omega)) ?_ | refine WL.gyes rfl rfl rfl rfl (Yld.quo rfl rfl (by omega) (by omega) (by simp only [In]; omega)) ?_ | refine WL.gyes rfl rfl rfl rfl (Yld.rem rfl rfl (by omega) (by omega)) ?_ | refine WL.gyes rfl rfl rfl rfl (Yld.shl rfl rfl (by omega)) ?_ | refine WL.gyes rfl rfl rfl rfl (Yld.shr rfl rfl (by omega)) ?_ | refine WL.gyes rfl rfl rfl rfl (Yld.pure tab_ok rfl) ?_ | refine WL.gyes rfl rfl rfl rfl (Yld.fld flds_ok rfl rfl rfl) ?_ | refine WL.gyes rfl rfl rfl rfl (Yld.max2 rfl rfl) ?_ | refine WL.gyes rfl rfl rfl rfl (Yld.min2 rfl rfl) ?_ | refine WL.gyes rfl rfl rfl rfl (Yld.pickV rfl rfl rfl) ?_)
        exact WX.weaken (by repeat (first | exact Sub.nil | refine Sub.cons rfl ?_)) (hQ () wb ⟨a, b, _, _, _, _, hBab, hBb, hoa, hob, rfl, rfl, hN6b.mono (by omega), hN7b.mono (by omega), hfl (.inl hne), hgx, hB3b, hB4b⟩)
      · rintro _ wz ⟨a', b', c', d', qz, rz, hBq, hBr, ho1, ho2, ho3, ho4, hNq, hNr, hFl, hgz, hB3z, hB4z⟩
        repeat (first | refine WC.seq ?_ | refine WC.block ?_ | refine WC.region ?_ | refine WL.nil ?_ | refine WX.then_normal ?_ | refine WC.skip ?_ | refine WC.exit ?_ | refine WC.ret ?_ | refine WX.then_exit ?_ | refine WX.then_ret ?_ | refine WX.block_normal ?_ | refine WX.block_ret ?_ | refine WX.block_same ?_ | refine WX.block_other rfl ?_ | refine WC.label ?_ | refine WC.scope ?_ | refine WX.scope_normal ?_ | refine WX.scope_ret ?_ | refine WX.scope_exit ?_ | refine WL.y rfl (Yld.add rfl rfl (by simp only [In]; omega)) ?_ | refine WL.y rfl (Yld.sub rfl rfl (by simp only [In]; omega)) ?_ | refine WL.y rfl (Yld.mul rfl rfl (by simp only [In]; omega)) ?_ | refine WL.y rfl (Yld.convB tab_ok rfl rfl rfl rfl) ?_ | refine WL.y rfl (Yld.conv tab_ok rfl rfl rfl (by simp only [In]; omega)) ?_ | refine WL.y rfl (Yld.quo rfl rfl (by omega) (by omega) (by simp only [In]; omega)) ?_ | refine WL.y rfl (Yld.rem rfl rfl (by omega) (by omega)) ?_ | refine WL.y rfl (Yld.shl rfl rfl (by omega)) ?_ | refine WL.y rfl (Yld.shr rfl rfl (by omega)) ?_ | refine WL.y rfl (Yld.pure tab_ok rfl) ?_ | refine WL.y rfl (Yld.fld flds_ok rfl rfl rfl) ?_ | refine WL.y rfl (Yld.max2 rfl rfl) ?_ | refine WL.y rfl (Yld.min2 rfl rfl) ?_ | refine WL.y rfl (Yld.pickV rfl rfl rfl) ?_ | refine WL.gno rfl rfl rfl rfl ?_ | refine WL.gyes rfl rfl rfl rfl (Yld.add rfl rfl (by simp only [In]; omega)) ?_ | refine WL.gyes rfl rfl rfl rfl (Yld.sub rfl rfl (by simp only [In]; omega)) ?_ | refine WL.gyes rfl rfl rfl rfl (Yld.mul rfl rfl (by simp only [In]; omega)) ?_ | refine WL.gyes rfl rfl rfl rfl (Yld.convB tab_ok rfl rfl rfl rfl) ?_ | refine WL.gyes rfl rfl rfl rfl (Yld.conv tab_ok rfl rfl rfl (by simp only [In]; omega)) ?_ | refine WL.gyes rfl rfl rfl rfl (Yld.quo rfl rfl (by omega) (by omega) (by simp only [In]; omega)) ?_ | refine WL.gyes rfl rfl rfl rfl (Yld.rem rfl rfl (by omega) (by omega)) ?_ | refine WL.gyes rfl rfl rfl rfl (Yld.shl rfl rfl (by omega)) ?_ | refine WL.gyes rfl rfl rfl rfl (Yld.shr rfl rfl (by omega)) ?_ | refine WL.gyes rfl rfl rfl rfl (Yld.pure tab_ok rfl) ?_ | refine WL.gyes rfl rfl rfl rfl (Yld.fld flds_ok rfl rfl rfl) ?_ | refine WL.gyes rfl rfl rfl rfl (Yld.max2 rfl rfl) ?_ | refine WL.gyes rfl rfl rfl rfl (Yld.min2 rfl rfl) ?_ | refine WL.gyes rfl rfl rfl rfl (Yld.pickV rfl rfl rfl) ?_)
        refine WC.chain (fun k => Nat.blt k 2 || Nat.beq k 4) (fun w' => Bl w' g9 50 [a', b'] ∧ Bl w' g10 50 [c', d']) mixed (by kernel_rfl) (fun w' e => ⟨bl_eqv e hBq, bl_eqv e hBr⟩) ?_
        refine WK.y rfl rfl (fun w' h => Yld.bagg (vs := [a', b']) tab_ok h.1 rfl rfl rfl rfl) ?_
        refine WK.y rfl rfl (fun w' h => Yld.bagg (vs := [c', d']) tab_ok h.2 rfl rfl rfl rfl) ?_
        refine WK.eff rfl (Ef0.storeW (vs := [a', b']) tab_ok rfl rfl rfl (by intro u hu; simp at hu; rcases hu with rfl | rfl <;> assumption) hB3z rfl rfl) (fun w' h => ⟨hBq.keep h.2 (by simp; omega), hBr.keep h.2 (by simp; omega)⟩) ?_
        rintro wy ⟨hBy3, hgy⟩
        have hB4y := hB4z.keep hgy (by simp; omega)
        have hBqy := hBq.keep hgy (by simp; omega)
        have hBry := hBr.keep hgy (by simp; omega)
        refine WK.eff rfl (Ef0.storeW (vs := [c', d']) tab_ok rfl rfl rfl (by intro u hu; simp at hu; rcases hu with rfl | rfl <;> assumption) hB4y rfl rfl) (fun w' h => ⟨hBqy.keep h.2 (by simp; omega), hBry.keep h.2 (by simp; omega)⟩) ?_
        rintro wx ⟨hBx4, hgx2⟩
        repeat (first | refine WK.y rfl rfl (fun _ _ => Yld.add rfl rfl (by simp only [In]; omega)) ?_ | refine WK.y rfl rfl (fun _ _ => Yld.sub rfl rfl (by simp only [In]; omega)) ?_ | refine WK.y rfl rfl (fun _ _ => Yld.mul rfl rfl (by simp only [In]; omega)) ?_ | refine WK.y rfl rfl (fun _ _ => Yld.convB tab_ok rfl rfl rfl rfl) ?_ | refine WK.y rfl rfl (fun _ _ => Yld.conv tab_ok rfl rfl rfl (by simp only [In]; omega)) ?_ | refine WK.y rfl rfl (fun _ _ => Yld.quo rfl rfl (by omega) (by omega) (by simp only [In]; omega)) ?_ | refine WK.y rfl rfl (fun _ _ => Yld.rem rfl rfl (by omega) (by omega)) ?_ | refine WK.y rfl rfl (fun _ _ => Yld.shl rfl rfl (by omega)) ?_ | refine WK.y rfl rfl (fun _ _ => Yld.shr rfl rfl (by omega)) ?_ | refine WK.y rfl rfl (fun _ _ => Yld.pure tab_ok rfl) ?_)
        refine WK.nil ?_
        repeat (first | refine WC.seq ?_ | refine WC.block ?_ | refine WC.region ?_ | refine WL.nil ?_ | refine WX.then_normal ?_ | refine WC.skip ?_ | refine WC.exit ?_ | refine WC.ret ?_ | refine WX.then_exit ?_ | refine WX.then_ret ?_ | refine WX.block_normal ?_ | refine WX.block_ret ?_ | refine WX.block_same ?_ | refine WX.block_other rfl ?_ | refine WC.label ?_ | refine WC.scope ?_ | refine WX.scope_normal ?_ | refine WX.scope_ret ?_ | refine WX.scope_exit ?_ | refine WL.y rfl (Yld.add rfl rfl (by simp only [In]; omega)) ?_ | refine WL.y rfl (Yld.sub rfl rfl (by simp only [In]; omega)) ?_ | refine WL.y rfl (Yld.mul rfl rfl (by simp only [In]; omega)) ?_ | refine WL.y rfl (Yld.convB tab_ok rfl rfl rfl rfl) ?_ | refine WL.y rfl (Yld.conv tab_ok rfl rfl rfl (by simp only [In]; omega)) ?_ | refine WL.y rfl (Yld.quo rfl rfl (by omega) (by omega) (by simp only [In]; omega)) ?_ | refine WL.y rfl (Yld.rem rfl rfl (by omega) (by omega)) ?_ | refine WL.y rfl (Yld.shl rfl rfl (by omega)) ?_ | refine WL.y rfl (Yld.shr rfl rfl (by omega)) ?_ | refine WL.y rfl (Yld.pure tab_ok rfl) ?_ | refine WL.y rfl (Yld.fld flds_ok rfl rfl rfl) ?_ | refine WL.y rfl (Yld.max2 rfl rfl) ?_ | refine WL.y rfl (Yld.min2 rfl rfl) ?_ | refine WL.y rfl (Yld.pickV rfl rfl rfl) ?_ | refine WL.gno rfl rfl rfl rfl ?_ | refine WL.gyes rfl rfl rfl rfl (Yld.add rfl rfl (by simp only [In]; omega)) ?_ | refine WL.gyes rfl rfl rfl rfl (Yld.sub rfl rfl (by simp only [In]; omega)) ?_ | refine WL.gyes rfl rfl rfl rfl (Yld.mul rfl rfl (by simp only [In]; omega)) ?_ | refine WL.gyes rfl rfl rfl rfl (Yld.convB tab_ok rfl rfl rfl rfl) ?_ | refine WL.gyes rfl rfl rfl rfl (Yld.conv tab_ok rfl rfl rfl (by simp only [In]; omega)) ?_ | refine WL.gyes rfl rfl rfl rfl (Yld.quo rfl rfl (by omega) (by omega) (by simp only [In]; omega)) ?_ | refine WL.gyes rfl rfl rfl rfl (Yld.rem rfl rfl (by omega) (by omega)) ?_ | refine WL.gyes rfl rfl rfl rfl (Yld.shl rfl rfl (by omega)) ?_ | refine WL.gyes rfl rfl rfl rfl (Yld.shr rfl rfl (by omega)) ?_ | refine WL.gyes rfl rfl rfl rfl (Yld.pure tab_ok rfl) ?_ | refine WL.gyes rfl rfl rfl rfl (Yld.fld flds_ok rfl rfl rfl) ?_ | refine WL.gyes rfl rfl rfl rfl (Yld.max2 rfl rfl) ?_ | refine WL.gyes rfl rfl rfl rfl (Yld.min2 rfl rfl) ?_ | refine WL.gyes rfl rfl rfl rfl (Yld.pickV rfl rfl rfl) ?_)
        exact WX.retcct tab_ok rfl rfl rfl (hBy3.keep hgx2 (by simp; omega)) rfl rfl rfl hBx4 rfl rfl ⟨⟨_, _, qz, rz, by rw [decide_eq_false hy0]; rfl, (hNq.stored hB3z zero_no hgy).stored hB4y zero_no hgx2, (hNr.stored hB3z zero_no hgy).stored hB4y zero_no hgx2, fun _ => hFl⟩, gr_new (gr_new hgz hgy (by omega)) hgx2 (by omega)⟩
end Go.Proofs.YtfibkajdahaggaaDoor
