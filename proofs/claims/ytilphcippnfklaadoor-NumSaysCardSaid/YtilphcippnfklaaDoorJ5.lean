/- Texts of this claim, joined by a program: Lim5, Num14, Lim6, Num13, Rev, Num15, Num16, Par, NumA, GSa, Sent. -/
import Derived.Test.YtilphcippnfklaaDoorJ4
/- The chapter's numbers: division, whole numbers, order: plain. -/
namespace Go.Proofs.YtilphcippnfklaaDoor
open Go Go.RowKit
theorem Cn.zeroL {l : List Int} (h : Cn l) : 0 ≤ lv l := lv_nonneg h.1
theorem ldrop_set_self (q : List Int) (i : Nat) (x : Int) (h : i < q.length) : (q.set i x).drop i = x :: q.drop (i + 1) := by
  rw [List.drop_eq_getElem_cons (by rw [List.length_set]; exact h)]
  simp [List.drop_set_of_lt]
theorem divided_M {a b : List Int} {m : Nat} {K : List Int → List Int → Prop} (ha : Lb a) (hb : Cn b) (hne : b ≠ []) (la : a.length ≤ m) (lb : b.length ≤ m) (hm : m ≤ 5000)
    (k : ∀ Q R, Cn Q → Cn R → lv a = lv Q * lv b + lv R → lv R < lv b → Q.length ≤ m → R.length ≤ m → K Q R) : M_smithyref9_divided a b K := by
  intro _ _
  have hbp : 0 < lv b := by
    have := hb.ge hne
    have := lpow_pos (b.length - 1)
    omega
  refine ⟨by omega, by simp only [In]; omega, ?_⟩
  refine ⟨fun r i q => -1 ≤ i ∧ i < a.length ∧ q.length = a.length ∧ Lb q ∧ Cn r ∧ r.length ≤ m ∧ lv r < lv b ∧ lv (a.drop (i + 1).toNat) = lv (q.drop (i + 1).toNat) * lv b + lv r ∧ lv q = 10000 ^ (i + 1).toNat * lv (q.drop (i + 1).toNat), fun _ i _ => (i + 1).toNat, ⟨by omega, by omega, by simp, Lb.zeros _, Cn.nil, by simp, by simpa [lv] using hbp, ?_, ?_⟩, fun r i q ⟨a0, a1, a2, a3, a4, a5, a6, a7, a8⟩ _ => ⟨fun hi => ?_, fun hi => ?_⟩⟩
  · simp [List.drop_eq_nil_of_le, lv]
  · simp [lv_zeros, lv]
  · have hai := ha.getD i.toNat
    refine ⟨by omega, by simp only [List.length_singleton]; omega, trim0_M (m := m + 1) (a4.1.cons (x := a.getD i.toNat 0) hai.1 hai.2) (by simp; omega) (by omega) fun R hR hRv hRl => ?_⟩
    have hRv : lv R = a.getD i.toNat 0 + 10000 * lv r := hRv
    have hr0 := a4.zeroL
    have hR0 := hR.zeroL
    refine ⟨fun lo hi2 => 0 ≤ lo ∧ lo ≤ hi2 ∧ hi2 ≤ 9999 ∧ lo * lv b ≤ lv R ∧ lv R < (hi2 + 1) * lv b, fun lo hi2 => (hi2 - lo).toNat, ⟨by omega, by omega, by omega, by omega, by omega⟩, fun lo hi2 ⟨b0, b1, b2, b3, b4⟩ => ⟨fun h => ?_, fun h => ?_⟩⟩
    · generalize hmid : (lo + hi2 + 1) / 2 = mid
      have hmr : lo < mid ∧ mid ≤ hi2 := by omega
      refine ⟨by simp only [In]; omega, by simp only [In]; omega, ⟨by omega, by omega, by simp only [In]; omega⟩, times_M hb.1 (by omega) lb (by omega) fun L hL hLv hLl => size_M hL hR (by omega) (by omega) ⟨fun h1 => ?_, fun h1 => ⟨by simp only [In]; omega, ⟨by omega, by omega, by omega, b3, ?_⟩, by dsimp only; omega⟩⟩⟩
      · have : lv L ≤ lv R := by
          split at h1
          · omega
          · split at h1 <;> omega
        exact ⟨⟨by omega, by omega, by omega, by rw [← hLv]; exact this, b4⟩, by dsimp only; omega⟩
      · have : lv R < lv L := by
          split at h1
          · omega
          · split at h1 <;> omega
        rw [show mid - 1 + 1 = mid by omega, ← hLv]
        exact this
    · obtain rfl : hi2 = lo := by omega
      refine ⟨by omega, times_M hb.1 (by omega) lb (by omega) fun L hL hLv hLl => ?_⟩
      have hle : lv L ≤ lv R := by rw [hLv]; exact b3
      refine less_M hR.1 hL.1 (by omega) (hL.le_len hR hle) hle fun D hD hDv hDl => trim0_M (m := m + 1) hD (by omega) (by omega) fun D' hD' hDv' hDl' => ?_
      have hfin : lv D' < lv b := by
        rw [hDv', hDv, hLv]
        have : (hi2 + 1) * lv b = hi2 * lv b + lv b := by grind
        omega
      have hD'm : D'.length ≤ m := by
        have := hD'.le_len hb (by omega)
        omega
      have hdr := ldrop_set_self q i.toNat hi2 (by omega)
      refine ⟨by simp only [In]; omega, ⟨by omega, by omega, by rw [List.length_set]; exact a2, a3.set _ (by omega) (by omega), hD', hD'm, hfin, ?_, ?_⟩, by dsimp only; omega⟩
      · rw [show (i - 1 + 1).toNat = i.toNat by omega, hdr, lv_drop, lv]
        rw [show (i + 1).toNat = i.toNat + 1 by omega] at a7
        rw [a7, hDv', hDv, hLv, hRv]
        grind
      · rw [show (i - 1 + 1).toNat = i.toNat by omega, hdr, lv_set _ _ _ (by omega), a8, lv]
        rw [show (i + 1).toNat = i.toNat + 1 by omega, lpow_succ]
        have hz : q.getD i.toNat 0 = 0 := by
          have h1 := lv_split q i.toNat
          have h2 := lv_drop q i.toNat
          rw [a8, show (i + 1).toNat = i.toNat + 1 by omega, lpow_succ] at h1
          have h3 := lv_nonneg (a3.take i.toNat)
          have h4 := a3.getD i.toNat
          have hp := lpow_pos i.toNat
          rw [h2] at h1
          generalize (10000 : Int) ^ i.toNat = P at *
          have h5 : 0 = lv (q.take i.toNat) + P * q.getD i.toNat 0 := by grind
          have h6 : 0 ≤ P * q.getD i.toNat 0 := Int.mul_nonneg (by omega) h4.1
          have h7 : P * q.getD i.toNat 0 = 0 := by omega
          rcases Int.mul_eq_zero.1 h7 with h8 | h8
          · omega
          · exact h8
        rw [hz]
        grind
  · rw [show (i + 1).toNat = 0 by omega, List.drop_zero, List.drop_zero] at a7
    exact trim0_M a3 (m := m) (by omega) (by omega) fun Q hQ hQv hQl => k Q r hQ a4 (by rw [a7, hQv]) a6 hQl a5
theorem of_M {n : Int} {K : Bool → List Int → Prop} (hn : In .i64 n) (k : ∀ s L, RN s L n 5 → K s L) : M_smithyref9_Of n K := by
  simp only [In] at hn
  refine ⟨fun l m => (-9223372036854775808 ≤ m ∧ m ≤ 9223372036854775807) ∧ Lb l ∧ l.length ≤ 5 ∧ (m ≠ 0 → l.length < 5) ∧ lv l + 10000 ^ l.length * (m.natAbs : Int) = n.natAbs, fun _ m => m.natAbs, ⟨by omega, Lb.nil, by simp, fun _ => by simp, by simp [lv]⟩, fun l m ⟨⟨a0, a0'⟩, a1, a2, a3, a4⟩ => ⟨fun h => ⟨by decide, ?_⟩, fun h => ?_⟩⟩
  · have h1 : (m.tmod 10000).natAbs = m.natAbs % 10000 := by rw [Int.natAbs_tmod]; rfl
    have h2 : (m.tdiv 10000).natAbs = m.natAbs / 10000 := by rw [Int.natAbs_tdiv]; rfl
    have h3 := a3 h
    refine ⟨fun d => d = ((m.natAbs % 10000 : Nat) : Int), ⟨fun h4 => ⟨by simp only [In]; omega, by omega⟩, fun h4 => by omega⟩, ?_⟩
    rintro d rfl
    have hw : IntKind.wrap .i64 (m.tdiv 10000) = m.tdiv 10000 := by
      simp only [IntKind.wrap, IntKind.bits, IntKind.signed]
      simp
      split <;> omega
    have hv : lv (l ++ [((m.natAbs % 10000 : Nat) : Int)]) + 10000 ^ (l.length + 1) * ((m.tdiv 10000).natAbs : Int) = n.natAbs := by
      rw [lv_push, h2, lpow_succ, ← a4]
      have : (m.natAbs : Int) = ((m.natAbs % 10000 : Nat) : Int) + 10000 * ((m.natAbs / 10000 : Nat) : Int) := by omega
      rw [this]
      generalize (10000 : Int) ^ l.length = P
      grind
    rw [hw]
    refine ⟨by simp only [List.length_singleton]; omega, by decide, ⟨⟨by omega, by omega⟩, a1.push (by omega) (by omega), by simp; omega, fun h5 => ?_, by simpa using hv⟩, by dsimp only; omega⟩
    rw [List.length_append, List.length_singleton]
    rcases Nat.lt_or_ge (l.length + 1) 5 with h6 | h6
    · exact h6
    · exfalso
      have h7 := lpow_mono (m := 5) (n := l.length + 1) h6
      have h8 := lv_nonneg (l := l ++ [((m.natAbs % 10000 : Nat) : Int)]) (a1.push (by omega) (by omega))
      have h9 : (10000 : Int) ^ (l.length + 1) * 1 ≤ 10000 ^ (l.length + 1) * ((m.tdiv 10000).natAbs : Int) := Int.mul_le_mul_of_nonneg_left (by omega) (Int.le_of_lt (lpow_pos _))
      omega
  · subst h
    have hv : lv l = n.natAbs := by simpa using a4
    exact trimR_M a1 (m := 5) a2 (by omega) (by
      rw [hv]
      by_cases hneg : n < 0
      · rw [decide_eq_true hneg]; simp; omega
      · rw [decide_eq_false hneg]; simp; omega) k
theorem RN.sign {s : Bool} {L : List Int} {z : Int} {m : Nat} (h : RN s L z m) : s = decide (z < 0) := by
  have h1 := h.cn.zeroL
  have h2 := h.val
  cases hs : s with
  | false => rw [hs] at h2; simp only [cond_false] at h2; rw [decide_eq_false (by omega)]
  | true =>
    have hne : L ≠ [] := fun e => by have := h.zr e; rw [hs] at this; cases this
    have h3 := h.cn.ge hne
    have h4 := lpow_pos (L.length - 1)
    rw [hs] at h2
    simp only [cond_true] at h2
    rw [decide_eq_true (by omega)]
theorem RN.abs {s : Bool} {L : List Int} {z : Int} {m : Nat} (h : RN s L z m) : lv L = z.natAbs := by
  have h1 := h.cn.zeroL
  have h2 := h.val
  cases s <;> simp only [cond_false, cond_true] at h2 <;> omega
theorem RN.mono {s : Bool} {L : List Int} {z : Int} {m k : Nat} (h : RN s L z m) (hk : m ≤ k) : RN s L z k := ⟨h.cn, h.zr, h.val, Nat.le_trans h.len hk⟩
theorem neg_M {s : Bool} {a : List Int} {x : Int} {m : Nat} {K : Bool → List Int → Prop} (ha : RN s a x m) (hm : m ≤ 5000) (k : ∀ n L, RN n L (-x) m → K n L) : M_smithyref9_Num_Negate s a K := by
  intro _
  refine trimR_M ha.cn.1 ha.len (by omega) ?_ k
  have := ha.val
  cases s <;> simp at this ⊢ <;> omega
theorem add_M {s t : Bool} {a b : List Int} {x y : Int} {m : Nat} {K : Bool → List Int → Prop} (ha : RN s a x m) (hb : RN t b y m) (hm : m ≤ 5000) (k : ∀ n L, RN n L (x + y) (m + 1) → K n L) : M_smithyref9_Num_Add s a t b K := by
  intro _ _
  have la := ha.len
  have lb := hb.len
  have va := ha.val
  have vb' := hb.val
  refine ⟨fun h => ?_, fun h => ?_⟩
  · have e : s = t := by simpa using h
    subst e
    refine rsum_M ha.cn.1 hb.cn.1 la lb (by omega) fun l hl hv hlen => trimR_M hl hlen (by omega) ?_ k
    rw [hv, va, vb']
    cases s <;> simp; omega
  · have e : s ≠ t := by simpa using h
    refine size_M ha.cn hb.cn (by omega) (by omega) ⟨fun h1 => ?_, fun h1 => ?_⟩
    · have hle : lv b ≤ lv a := by
        split at h1
        · omega
        · omega
      refine less_M ha.cn.1 hb.cn.1 (by omega) (hb.cn.le_len ha.cn hle) hle fun l hl hv hlen => trimR_M hl (m := m + 1) (by omega) (by omega) ?_ k
      rw [hv, va, vb']
      cases s <;> cases t <;> simp at e ⊢ <;> omega
    · have hle : lv a ≤ lv b := by
        split at h1
        · omega
        · exfalso
          split at h1 <;> omega
      refine less_M hb.cn.1 ha.cn.1 (by omega) (ha.cn.le_len hb.cn hle) hle fun l hl hv hlen => trimR_M hl (m := m + 1) (by omega) (by omega) ?_ k
      rw [hv, va, vb']
      cases s <;> cases t <;> simp at e ⊢ <;> omega
theorem sub_M {s t : Bool} {a b : List Int} {x y : Int} {m : Nat} {K : Bool → List Int → Prop} (ha : RN s a x m) (hb : RN t b y m) (hm : m ≤ 5000) (k : ∀ n L, RN n L (x - y) (m + 1) → K n L) : M_smithyref9_Num_Sub s a t b K := by
  intro _ _
  exact neg_M hb hm fun n L hN => add_M ha hN hm fun n' L' hN' => k n' L' (by rw [show x - y = x + -y by omega]; exact hN')
theorem cmp_M {s t : Bool} {a b : List Int} {x y : Int} {m : Nat} {K : Int → Prop} (ha : RN s a x m) (hb : RN t b y m) (hm : m ≤ 5000) (k : K (if x < y then -1 else if y < x then 1 else 0)) : M_smithyref9_Num_Cmp s a t b K := by
  intro _ _
  have la := ha.len
  have lb := hb.len
  have va := ha.val
  have vb' := hb.val
  have sa := ha.sign
  have sb := hb.sign
  refine ⟨fun h => ⟨fun h1 => ?_, fun h1 => ?_⟩, fun h => ⟨fun h1 => ?_, fun h1 => ?_⟩⟩
  · rw [h1] at h sa
    have e : t = false := by simpa using h
    rw [e] at sb
    have h2 := of_decide_eq_true sa.symm
    have h3 := of_decide_eq_false sb.symm
    rw [if_pos (by omega)] at k; exact k
  · rw [h1] at h sa
    have e : t = true := by simpa using h
    rw [e] at sb
    have h2 := of_decide_eq_false sa.symm
    have h3 := of_decide_eq_true sb.symm
    rw [if_neg (by omega), if_pos (by omega)] at k; exact k
  · have e : t = s := by simp at h; exact h.symm
    rw [e, h1] at vb'
    rw [h1] at va
    simp only [cond_true] at va vb'
    refine size_M hb.cn ha.cn (by omega) (by omega) ?_
    have e1 : (lv b < lv a) ↔ (x < y) := by omega
    have e2 : (lv a < lv b) ↔ (y < x) := by omega
    simp only [e1, e2]
    exact k
  · have e : t = s := by simp at h; exact h.symm
    rw [e, h1] at vb'
    rw [h1] at va
    simp only [cond_false] at va vb'
    refine size_M ha.cn hb.cn (by omega) (by omega) ?_
    rw [← va, ← vb']
    exact k
theorem divmod_M {s t : Bool} {a b : List Int} {x y : Int} {m : Nat} {K : Bool → List Int → Bool → List Int → Bool → Prop} (ha : RN s a x m) (hb : RN t b y m) (hm : 5 ≤ m ∧ m ≤ 4000) (k0 : y = 0 → K false [] false [] false)
    (k : ∀ n Q q n' R r, y ≠ 0 → RN n Q q (m + 1) → RN n' R r (m + 1) → Floor x y q r → K n Q n' R true) : M_smithyref9_Num_DivMod s a t b K := by
  intro _ _
  have la := ha.len
  have lb := hb.len
  have va := ha.val
  have vb' := hb.val
  refine ⟨fun h => k0 ?_, fun h => ?_⟩
  · have : b = [] := List.length_eq_zero_iff.mp (by omega)
    rw [vb', this]; cases t <;> rfl
  have hne : b ≠ [] := fun e => h (by rw [e]; rfl)
  refine divided_M ha.cn.1 hb.cn hne la lb (by omega) fun Q R hQ hR hv hlt lQ lR => ?_
  have hR0 := hR.zeroL
  have hbp : 0 < lv b := by omega
  have hy0 : y ≠ 0 := by rw [vb']; cases t <;> simp <;> omega
  refine trimR_M (z := bif (!(s == t)) then -lv Q else lv Q) hQ.1 lQ (by omega) rfl fun n1 Q1 hN1 => trimR_M (z := bif s then -lv R else lv R) hR.1 lR (by omega) rfl fun n2 R1 hN2 => ?_
  refine ⟨fun q0 q1 r0 r1 => ∃ q r, RN q0 q1 q (m + 1) ∧ RN r0 r1 r (m + 1) ∧ Floor x y q r, ⟨fun h1 => ?_, fun h1 => ?_⟩, fun q0 q1 r0 r1 ⟨q, r, g1, g2, g3⟩ => k _ _ _ _ _ _ hy0 g1 g2 g3⟩
  · rw [Bool.and_eq_true, decide_eq_true_eq] at h1
    obtain ⟨h1, h2⟩ := h1
    have hne2 : n2 ≠ t := by simpa using h2
    have hs2 := hN2.sign
    have hst := hb.sign
    have habs := hN2.abs
    have hge := hN2.cn.ge (fun e => by rw [e] at h1; simp at h1)
    have hpp := lpow_pos (R1.length - 1)
    refine of_M (by simp only [In]; omega) fun n3 L3 hN3 => sub_M hN1 (hN3.mono (by omega)) (by omega) fun n4 L4 hN4 => add_M hN2 hb (by omega) fun n5 L5 hN5 => ⟨_, _, hN4, hN5, ?_⟩
    have hsn : s ≠ t := by
      intro e
      apply hne2
      rw [hs2]
      subst e
      cases s with
      | true => simp only [cond_true] at habs ⊢; exact decide_eq_true (by omega)
      | false => simp only [cond_false] at habs ⊢; exact decide_eq_false (by omega)
    unfold Floor
    rw [va, vb']
    cases s <;> cases t <;> simp at hsn ⊢ habs <;> (constructor <;> first | grind | omega)
  · refine ⟨_, _, hN1.mono (by omega), hN2.mono (by omega), ?_⟩
    have hs2 := hN2.sign
    have habs := hN2.abs
    rw [Bool.and_eq_false_iff, decide_eq_false_iff_not] at h1
    have hc : s = t ∨ lv R = 0 := by
      rcases h1 with h1 | h1
      · right
        have : R1 = [] := List.length_eq_zero_iff.mp (by omega)
        rw [this] at habs
        simp only [lv] at habs
        cases s <;> simp only [cond_true, cond_false] at habs <;> omega
      · have e : n2 = t := by simpa using h1
        rcases (show lv R = 0 ∨ 0 < lv R by omega) with h0 | h0
        · exact .inr h0
        · left
          have hst := hb.sign
          rw [← e, hs2]
          cases s with
          | true => simp only [cond_true]; exact (decide_eq_true (by omega)).symm
          | false => simp only [cond_false]; exact (decide_eq_false (by omega)).symm
    unfold Floor
    rw [va, vb']
    rcases hc with rfl | h0
    · cases s <;> simp <;> (constructor <;> first | grind | omega)
    · cases s <;> cases t <;> simp [h0] <;> (constructor <;> first | grind | omega)
theorem RN.nil (m : Nat) : RN false [] 0 m := ⟨Cn.nil, fun _ => rfl, rfl, by simp⟩
theorem divmod_all {s t : Bool} {a b : List Int} {x y : Int} {m : Nat} {K : Bool → List Int → Bool → List Int → Bool → Prop} (ha : RN s a x m) (hb : RN t b y m) (hm : 5 ≤ m ∧ m ≤ 4000)
    (k : ∀ n Q q n' R r, RN n Q q (m + 1) → RN n' R r (m + 1) → (y ≠ 0 → Floor x y q r) → (y = 0 → q = 0 ∧ r = 0) → K n Q n' R (!decide (y = 0))) : M_smithyref9_Num_DivMod s a t b K :=
  divmod_M ha hb hm (fun h => by
    have := k false [] 0 false [] 0 (RN.nil _) (RN.nil _) (fun h' => absurd h h') (fun _ => ⟨rfl, rfl⟩)
    rwa [decide_eq_true h] at this) (fun n Q q n' R r hy g1 g2 g3 => by
    have := k n Q q n' R r g1 g2 (fun _ => g3) (fun h => absurd h hy)
    rwa [decide_eq_false hy] at this)
end Go.Proofs.YtilphcippnfklaaDoor
 namespace Go.Proofs.YtilphcippnfklaaDoor
open Go Go.RowKit
attribute [local irreducible] WL WC WX WQ WK Yld Eff Ef0 Fn
theorem val_cut' (l : List Nat) (k : Nat) : val (l.drop k) ≤ val l := by
  rcases Nat.lt_or_ge l.length k with h | h
  · rw [List.drop_eq_nil_of_le (by omega)]; simp [val]
  · have := val_app (l.take k) (l.drop k)
    rw [List.take_append_drop, List.length_take, Nat.min_eq_left h] at this
    have h1 : 0 < 1000000000 ^ k := Nat.pow_pos (by omega)
    have h2 : 1 * val (l.drop k) ≤ 1000000000 ^ k * val (l.drop k) := Nat.mul_le_mul_right _ h1
    omega
def In64 (x : Int) : Prop := -9223372036854775808 ≤ x ∧ x ≤ 9223372036854775807
set_option maxHeartbeats 1000000 in
theorem int_fn (v : Value) (x : Int) (m : Nat) (w : World) (hN : Nm w v x m) (hm : m ≤ 90000) : Fn Tryd.prog 34 ⟨[v]⟩ w fun r w' => ((In64 x ∧ r = .tuple #[vi x, .bool true]) ∨ (¬ In64 x ∧ r = .tuple #[vi 0, .bool false])) ∧ w.grownBy w' none := by
  have hN0 := hN
  obtain ⟨neg, A, c, l, rfl, hR, hD, hC, hl, hn, hz⟩ := hN
  refine Fn.enter (by kernel_rfl) Tryd.func34 rfl Tryd.ntmps34 rfl ?_
  repeat (first | refine WC.seq ?_ | refine WC.block ?_ | refine WC.region ?_ | refine WL.nil ?_ | refine WX.then_normal ?_ | refine WC.skip ?_ | refine WC.exit ?_ | refine WC.ret ?_ | refine WX.then_exit ?_ | refine WX.then_ret ?_ | refine WX.block_normal ?_ | refine WX.block_ret ?_ | refine WX.block_same ?_ | refine WX.block_other rfl ?_ | refine WC.label ?_ | refine WC.scope ?_ | refine WX.scope_normal ?_ | refine WX.scope_ret ?_ | refine WX.scope_exit ?_ | refine WL.y rfl (Yld.sub rfl rfl (by simp only [In]; omega)) ?_ | refine WL.y rfl (Yld.mul rfl rfl (by simp only [In]; omega)) ?_ | refine WL.y rfl (Yld.convB tab_ok rfl rfl rfl rfl) ?_ | refine WL.y rfl (Yld.conv tab_ok rfl rfl rfl (by simp only [In]; omega)) ?_ | refine WL.y rfl (Yld.pure tab_ok rfl) ?_ | refine WL.y rfl (Yld.pickV rfl rfl rfl) ?_ | refine WL.gno rfl rfl rfl rfl ?_ | refine WL.gyes rfl rfl rfl rfl (Yld.pure tab_ok rfl) ?_)
  refine WL.box (us := [.bool neg, .slice A l.length c]) rfl rfl rfl (fun g1 w1 hB1 hg1 hl1 => ?_)
  repeat (first | refine WC.seq ?_ | refine WC.block ?_ | refine WC.region ?_ | refine WL.nil ?_ | refine WX.then_normal ?_ | refine WC.skip ?_ | refine WC.exit ?_ | refine WC.ret ?_ | refine WX.then_exit ?_ | refine WX.then_ret ?_ | refine WX.block_normal ?_ | refine WX.block_ret ?_ | refine WX.block_same ?_ | refine WX.block_other rfl ?_ | refine WC.label ?_ | refine WC.scope ?_ | refine WX.scope_normal ?_ | refine WX.scope_ret ?_ | refine WX.scope_exit ?_ | refine WL.y rfl (Yld.sub rfl rfl (by simp only [In]; omega)) ?_ | refine WL.y rfl (Yld.mul rfl rfl (by simp only [In]; omega)) ?_ | refine WL.y rfl (Yld.convB tab_ok rfl rfl rfl rfl) ?_ | refine WL.y rfl (Yld.conv tab_ok rfl rfl rfl (by simp only [In]; omega)) ?_ | refine WL.y rfl (Yld.pure tab_ok rfl) ?_ | refine WL.y rfl (Yld.pickV rfl rfl rfl) ?_ | refine WL.gno rfl rfl rfl rfl ?_ | refine WL.gyes rfl rfl rfl rfl (Yld.pure tab_ok rfl) ?_)
  refine WC.chain (fun k => Nat.beq k 0 || Nat.beq k 3 || Nat.beq k 4 || Nat.beq k 5 || Nat.beq k 8 || Nat.beq k 9) (fun w' => w1.grownBy w' none) mixed (by kernel_rfl) (fun w' e => gr_eqv (gr_refl _ _) e) ?_
  refine WK.y rfl rfl (fun w' h => Yld.bagg (vs := [.bool neg, .slice A l.length c]) tab_ok (hB1.keep h (by simp)) rfl rfl rfl rfl) ?_
  refine WK.call rfl wants_none rfl rfl (of_fn (-9223372036854775808) w1 (by omega) (by omega)) (fun v w' h w2 e => gr_eqv h.2 e) ?_
  rintro o1 v1 ⟨hNo, gs1⟩
  have hc1 := ncmp_fn _ _ _ _ (m + 3) v1 (((hN0.grown hg1).grown gs1).mono (by omega)) (hNo.mono (by omega)) (by omega)
  refine WK.call rfl wants_none rfl rfl hc1 (fun v w' h w2 e => gr_eqv (gr_trans gs1 h.2) e) ?_
  rintro _ v2 ⟨rfl, gs2⟩
  clear hc1
  have gt2 := gr_trans gs1 gs2
  rcases Int.lt_or_le x (-9223372036854775808) with hx | hx
  · rw [if_pos hx]
    repeat (first | refine WK.y rfl rfl (fun _ _ => Yld.sub rfl rfl (by simp only [In]; omega)) ?_ | refine WK.y rfl rfl (fun _ _ => Yld.mul rfl rfl (by simp only [In]; omega)) ?_ | refine WK.y rfl rfl (fun _ _ => Yld.convB tab_ok rfl rfl rfl rfl) ?_ | refine WK.y rfl rfl (fun _ _ => Yld.conv tab_ok rfl rfl rfl (by simp only [In]; omega)) ?_ | refine WK.y rfl rfl (fun _ _ => Yld.pure tab_ok rfl) ?_)
    refine WK.no rfl rfl rfl rfl ?_
    refine WK.no rfl rfl rfl rfl ?_
    refine WK.no rfl rfl rfl rfl ?_
    refine WK.no rfl rfl rfl rfl ?_
    refine WK.y rfl rfl (fun _ _ => Yld.pickV rfl rfl rfl) ?_
    refine WK.nil ?_
    repeat (first | refine WC.seq ?_ | refine WC.block ?_ | refine WC.region ?_ | refine WL.nil ?_ | refine WX.then_normal ?_ | refine WC.skip ?_ | refine WC.exit ?_ | refine WC.ret ?_ | refine WX.then_exit ?_ | refine WX.then_ret ?_ | refine WX.block_normal ?_ | refine WX.block_ret ?_ | refine WX.block_same ?_ | refine WX.block_other rfl ?_ | refine WC.label ?_ | refine WC.scope ?_ | refine WX.scope_normal ?_ | refine WX.scope_ret ?_ | refine WX.scope_exit ?_ | refine WL.y rfl (Yld.sub rfl rfl (by simp only [In]; omega)) ?_ | refine WL.y rfl (Yld.mul rfl rfl (by simp only [In]; omega)) ?_ | refine WL.y rfl (Yld.convB tab_ok rfl rfl rfl rfl) ?_ | refine WL.y rfl (Yld.conv tab_ok rfl rfl rfl (by simp only [In]; omega)) ?_ | refine WL.y rfl (Yld.pure tab_ok rfl) ?_ | refine WL.y rfl (Yld.pickV rfl rfl rfl) ?_ | refine WL.gno rfl rfl rfl rfl ?_ | refine WL.gyes rfl rfl rfl rfl (Yld.pure tab_ok rfl) ?_)
    refine WC.cond rfl (fun _ => ?_) (fun h => by cases h)
    repeat (first | refine WC.seq ?_ | refine WC.block ?_ | refine WC.region ?_ | refine WL.nil ?_ | refine WX.then_normal ?_ | refine WC.skip ?_ | refine WC.exit ?_ | refine WC.ret ?_ | refine WX.then_exit ?_ | refine WX.then_ret ?_ | refine WX.block_normal ?_ | refine WX.block_ret ?_ | refine WX.block_same ?_ | refine WX.block_other rfl ?_ | refine WC.label ?_ | refine WC.scope ?_ | refine WX.scope_normal ?_ | refine WX.scope_ret ?_ | refine WX.scope_exit ?_ | refine WL.y rfl (Yld.sub rfl rfl (by simp only [In]; omega)) ?_ | refine WL.y rfl (Yld.mul rfl rfl (by simp only [In]; omega)) ?_ | refine WL.y rfl (Yld.convB tab_ok rfl rfl rfl rfl) ?_ | refine WL.y rfl (Yld.conv tab_ok rfl rfl rfl (by simp only [In]; omega)) ?_ | refine WL.y rfl (Yld.pure tab_ok rfl) ?_ | refine WL.y rfl (Yld.pickV rfl rfl rfl) ?_ | refine WL.gno rfl rfl rfl rfl ?_ | refine WL.gyes rfl rfl rfl rfl (Yld.pure tab_ok rfl) ?_)
    exact WX.ret2 rfl rfl rfl ⟨.inr ⟨fun h => by unfold In64 at h; omega, rfl⟩, gr_trans hg1 gt2⟩
  · have hd : decide ((if x < -9223372036854775808 then (-1 : Int) else if -9223372036854775808 < x then 1 else 0) < 0) = false := by rw [if_neg (by omega)]; split <;> rfl
    repeat (first | refine WK.y rfl rfl (fun _ _ => Yld.sub rfl rfl (by simp only [In]; omega)) ?_ | refine WK.y rfl rfl (fun _ _ => Yld.mul rfl rfl (by simp only [In]; omega)) ?_ | refine WK.y rfl rfl (fun _ _ => Yld.convB tab_ok rfl rfl rfl rfl) ?_ | refine WK.y rfl rfl (fun _ _ => Yld.conv tab_ok rfl rfl rfl (by simp only [In]; omega)) ?_ | refine WK.y rfl rfl (fun _ _ => Yld.pure tab_ok rfl) ?_)
    rw [hd]
    refine WK.yw rfl (wants_some rfl rfl rfl) rfl (fun w' h => Yld.bagg (vs := [.bool neg, .slice A l.length c]) tab_ok (hB1.keep h (by simp)) rfl rfl rfl rfl) ?_
    refine WK.call rfl (wants_some rfl rfl rfl) rfl rfl (of_fn 9223372036854775807 v2 (by omega) (by omega)) (fun v w' h w2 e => gr_eqv (gr_trans gt2 h.2) e) ?_
    rintro o2 v3 ⟨hNo2, gs3⟩
    have gt3 := gr_trans gt2 gs3
    refine WK.call rfl (wants_some rfl rfl rfl) rfl rfl (ncmp_fn _ _ _ _ (m + 3) v3 (((hN0.grown hg1).grown gt3).mono (by omega)) (hNo2.mono (by omega)) (by omega)) (fun v w' h w2 e => gr_eqv (gr_trans gt3 h.2) e) ?_
    rintro _ v4 ⟨rfl, gs4⟩
    have gt4 := gr_trans gt3 gs4
    refine WK.yw rfl (wants_some rfl rfl rfl) rfl (fun _ _ => Yld.pure tab_ok rfl) ?_
    refine WK.y rfl rfl (fun _ _ => Yld.pickV rfl rfl rfl) ?_
    refine WK.nil ?_
    repeat (first | refine WC.seq ?_ | refine WC.block ?_ | refine WC.region ?_ | refine WL.nil ?_ | refine WX.then_normal ?_ | refine WC.skip ?_ | refine WC.exit ?_ | refine WC.ret ?_ | refine WX.then_exit ?_ | refine WX.then_ret ?_ | refine WX.block_normal ?_ | refine WX.block_ret ?_ | refine WX.block_same ?_ | refine WX.block_other rfl ?_ | refine WC.label ?_ | refine WC.scope ?_ | refine WX.scope_normal ?_ | refine WX.scope_ret ?_ | refine WX.scope_exit ?_ | refine WL.y rfl (Yld.sub rfl rfl (by simp only [In]; omega)) ?_ | refine WL.y rfl (Yld.mul rfl rfl (by simp only [In]; omega)) ?_ | refine WL.y rfl (Yld.convB tab_ok rfl rfl rfl rfl) ?_ | refine WL.y rfl (Yld.conv tab_ok rfl rfl rfl (by simp only [In]; omega)) ?_ | refine WL.y rfl (Yld.pure tab_ok rfl) ?_ | refine WL.y rfl (Yld.pickV rfl rfl rfl) ?_ | refine WL.gno rfl rfl rfl rfl ?_ | refine WL.gyes rfl rfl rfl rfl (Yld.pure tab_ok rfl) ?_)
    have hB4 := hB1.keep gt4 (by simp)
    have hR4 := (hR.grown hg1).grown gt4
    rcases Int.lt_or_le 9223372036854775807 x with hx2 | hx2
    · have hd2 : decide (0 < (if x < 9223372036854775807 then (-1 : Int) else if 9223372036854775807 < x then 1 else 0)) = true := by rw [if_neg (by omega), if_pos hx2]; rfl
      rw [hd2]
      refine WC.cond rfl (fun _ => ?_) (fun h => by cases h)
      repeat (first | refine WC.seq ?_ | refine WC.block ?_ | refine WC.region ?_ | refine WL.nil ?_ | refine WX.then_normal ?_ | refine WC.skip ?_ | refine WC.exit ?_ | refine WC.ret ?_ | refine WX.then_exit ?_ | refine WX.then_ret ?_ | refine WX.block_normal ?_ | refine WX.block_ret ?_ | refine WX.block_same ?_ | refine WX.block_other rfl ?_ | refine WC.label ?_ | refine WC.scope ?_ | refine WX.scope_normal ?_ | refine WX.scope_ret ?_ | refine WX.scope_exit ?_ | refine WL.y rfl (Yld.sub rfl rfl (by simp only [In]; omega)) ?_ | refine WL.y rfl (Yld.mul rfl rfl (by simp only [In]; omega)) ?_ | refine WL.y rfl (Yld.convB tab_ok rfl rfl rfl rfl) ?_ | refine WL.y rfl (Yld.conv tab_ok rfl rfl rfl (by simp only [In]; omega)) ?_ | refine WL.y rfl (Yld.pure tab_ok rfl) ?_ | refine WL.y rfl (Yld.pickV rfl rfl rfl) ?_ | refine WL.gno rfl rfl rfl rfl ?_ | refine WL.gyes rfl rfl rfl rfl (Yld.pure tab_ok rfl) ?_)
      exact WX.ret2 rfl rfl rfl ⟨.inr ⟨fun h => by unfold In64 at h; omega, rfl⟩, gr_trans hg1 gt4⟩
    · have hd2 : decide (0 < (if x < 9223372036854775807 then (-1 : Int) else if 9223372036854775807 < x then 1 else 0)) = false := by
        rcases Int.lt_or_le x 9223372036854775807 with h | h
        · rw [if_pos h]; rfl
        · rw [if_neg (by omega), if_neg (by omega)]; rfl
      rw [hd2]
      refine WC.cond rfl (fun h => by cases h) (fun _ => ?_)
      have hvl : val l ≤ 9223372036854775808 := by cases neg <;> simp at hz <;> omega
      repeat (first | refine WL.y rfl (Yld.bload tab_ok hB4 rfl rfl rfl) ?_ | refine WC.seq ?_ | refine WC.block ?_ | refine WC.region ?_ | refine WL.nil ?_ | refine WX.then_normal ?_ | refine WC.skip ?_ | refine WC.exit ?_ | refine WC.ret ?_ | refine WX.then_exit ?_ | refine WX.then_ret ?_ | refine WX.block_normal ?_ | refine WX.block_ret ?_ | refine WX.block_same ?_ | refine WX.block_other rfl ?_ | refine WC.label ?_ | refine WC.scope ?_ | refine WX.scope_normal ?_ | refine WX.scope_ret ?_ | refine WX.scope_exit ?_ | refine WL.y rfl (Yld.sub rfl rfl (by simp only [In]; omega)) ?_ | refine WL.y rfl (Yld.mul rfl rfl (by simp only [In]; omega)) ?_ | refine WL.y rfl (Yld.convB tab_ok rfl rfl rfl rfl) ?_ | refine WL.y rfl (Yld.conv tab_ok rfl rfl rfl (by simp only [In]; omega)) ?_ | refine WL.y rfl (Yld.pure tab_ok rfl) ?_ | refine WL.y rfl (Yld.pickV rfl rfl rfl) ?_ | refine WL.gno rfl rfl rfl rfl ?_ | refine WL.gyes rfl rfl rfl rfl (Yld.pure tab_ok rfl) ?_)
      refine WC.loop (S := Nat) (fun j => j) (fun j => [(5, .int .i64 ((j : Int) - 1)), (4, .int .i64 (-(val (l.drop j) : Int))), (1, .pointer (some ⟨g1, 0, none⟩))])
        (fun j w2 => j ≤ l.length ∧ w2 = v4) l.length ⟨by omega, rfl⟩ (by rw [List.drop_eq_nil_of_le (Nat.le_refl _)]; repeat (first | exact Sub.nil | refine Sub.cons rfl ?_)) (fun j w2 ⟨hj, hw2⟩ => ?_)
      subst hw2
      repeat (first | refine WC.seq ?_ | refine WC.block ?_ | refine WC.region ?_ | refine WL.nil ?_ | refine WX.then_normal ?_ | refine WC.skip ?_ | refine WC.exit ?_ | refine WC.ret ?_ | refine WX.then_exit ?_ | refine WX.then_ret ?_ | refine WX.block_normal ?_ | refine WX.block_ret ?_ | refine WX.block_same ?_ | refine WX.block_other rfl ?_ | refine WC.label ?_ | refine WC.scope ?_ | refine WX.scope_normal ?_ | refine WX.scope_ret ?_ | refine WX.scope_exit ?_ | refine WL.y rfl (Yld.sub rfl rfl (by simp only [In]; omega)) ?_ | refine WL.y rfl (Yld.mul rfl rfl (by simp only [In]; omega)) ?_ | refine WL.y rfl (Yld.convB tab_ok rfl rfl rfl rfl) ?_ | refine WL.y rfl (Yld.conv tab_ok rfl rfl rfl (by simp only [In]; omega)) ?_ | refine WL.y rfl (Yld.pure tab_ok rfl) ?_ | refine WL.y rfl (Yld.pickV rfl rfl rfl) ?_ | refine WL.gno rfl rfl rfl rfl ?_ | refine WL.gyes rfl rfl rfl rfl (Yld.pure tab_ok rfl) ?_)
      refine WC.cond rfl (fun h => ?_) (fun h => ?_)
      · simp only [decide_eq_true_eq] at h
        obtain ⟨i, rfl⟩ : ∃ i, j = i + 1 := ⟨j - 1, by omega⟩
        have hjt : (((i + 1 : Nat) : Int) - 1).toNat = i := by omega
        have hda := hD (((i + 1 : Nat) : Int) - 1).toNat
        have hdc := drop_cons' l i (by omega)
        have hcut := val_cut' l i
        rw [hjt] at hda
        have hda2 : l.getD (((i + 1 : Nat) : Int) - 1).toNat 0 = l.getD i 0 := by rw [hjt]
        generalize hV : val (l.drop (i + 1)) = V at *
        repeat (first | refine WL.y rfl (Yld.bload tab_ok hB4 rfl rfl rfl) ?_ | refine WL.y rfl (Yld.iaddr tab_ok hR4 rfl rfl rfl rfl (by omega) (by omega)) ?_ | refine WL.y rfl (Yld.iload 0 tab_ok hR4 rfl rfl (by omega)) ?_ | refine WC.seq ?_ | refine WC.block ?_ | refine WC.region ?_ | refine WL.nil ?_ | refine WX.then_normal ?_ | refine WC.skip ?_ | refine WC.exit ?_ | refine WC.ret ?_ | refine WX.then_exit ?_ | refine WX.then_ret ?_ | refine WX.block_normal ?_ | refine WX.block_ret ?_ | refine WX.block_same ?_ | refine WX.block_other rfl ?_ | refine WC.label ?_ | refine WC.scope ?_ | refine WX.scope_normal ?_ | refine WX.scope_ret ?_ | refine WX.scope_exit ?_ | refine WL.y rfl (Yld.sub rfl rfl (by simp only [In]; omega)) ?_ | refine WL.y rfl (Yld.mul rfl rfl (by simp only [In]; omega)) ?_ | refine WL.y rfl (Yld.convB tab_ok rfl rfl rfl rfl) ?_ | refine WL.y rfl (Yld.conv tab_ok rfl rfl rfl (by simp only [In]; omega)) ?_ | refine WL.y rfl (Yld.pure tab_ok rfl) ?_ | refine WL.y rfl (Yld.pickV rfl rfl rfl) ?_ | refine WL.gno rfl rfl rfl rfl ?_ | refine WL.gyes rfl rfl rfl rfl (Yld.pure tab_ok rfl) ?_)
        have hsl : ((i + 1 : Nat) : Int) - 1 - 1 = (i : Int) - 1 := by omega
        have hvv : -(V : Int) * 1000000000 - ((l.getD (((i + 1 : Nat) : Int) - 1).toNat 0 : Nat) : Int) = -(val (l.drop i) : Int) := by rw [hda2]; omega
        rw [hsl, hvv]
        exact WX.round i ⟨by omega, rfl⟩ (by omega) (by repeat (first | exact Sub.nil | refine Sub.cons rfl ?_))
      · simp only [decide_eq_false_iff_not] at h
        obtain rfl : j = 0 := by omega
        repeat (first | refine WL.y rfl (Yld.bload tab_ok hB4 rfl rfl rfl) ?_ | refine WC.seq ?_ | refine WC.block ?_ | refine WC.region ?_ | refine WL.nil ?_ | refine WX.then_normal ?_ | refine WC.skip ?_ | refine WC.exit ?_ | refine WC.ret ?_ | refine WX.then_exit ?_ | refine WX.then_ret ?_ | refine WX.block_normal ?_ | refine WX.block_ret ?_ | refine WX.block_same ?_ | refine WX.block_other rfl ?_ | refine WC.label ?_ | refine WC.scope ?_ | refine WX.scope_normal ?_ | refine WX.scope_ret ?_ | refine WX.scope_exit ?_ | refine WL.y rfl (Yld.sub rfl rfl (by simp only [In]; omega)) ?_ | refine WL.y rfl (Yld.mul rfl rfl (by simp only [In]; omega)) ?_ | refine WL.y rfl (Yld.convB tab_ok rfl rfl rfl rfl) ?_ | refine WL.y rfl (Yld.conv tab_ok rfl rfl rfl (by simp only [In]; omega)) ?_ | refine WL.y rfl (Yld.pure tab_ok rfl) ?_ | refine WL.y rfl (Yld.pickV rfl rfl rfl) ?_ | refine WL.gno rfl rfl rfl rfl ?_ | refine WL.gyes rfl rfl rfl rfl (Yld.pure tab_ok rfl) ?_)
        rw [List.drop_zero]
        have hgx := gr_trans hg1 gt4
        refine WC.cond rfl (fun h => ?_) (fun h => ?_)
        · have hneg : neg = false := by simpa using h
          subst hneg
          repeat (first | refine WC.seq ?_ | refine WC.block ?_ | refine WC.region ?_ | refine WL.nil ?_ | refine WX.then_normal ?_ | refine WC.skip ?_ | refine WC.exit ?_ | refine WC.ret ?_ | refine WX.then_exit ?_ | refine WX.then_ret ?_ | refine WX.block_normal ?_ | refine WX.block_ret ?_ | refine WX.block_same ?_ | refine WX.block_other rfl ?_ | refine WC.label ?_ | refine WC.scope ?_ | refine WX.scope_normal ?_ | refine WX.scope_ret ?_ | refine WX.scope_exit ?_ | refine WL.y rfl (Yld.sub rfl rfl (by simp only [In]; omega)) ?_ | refine WL.y rfl (Yld.mul rfl rfl (by simp only [In]; omega)) ?_ | refine WL.y rfl (Yld.convB tab_ok rfl rfl rfl rfl) ?_ | refine WL.y rfl (Yld.conv tab_ok rfl rfl rfl (by simp only [In]; omega)) ?_ | refine WL.y rfl (Yld.pure tab_ok rfl) ?_ | refine WL.y rfl (Yld.pickV rfl rfl rfl) ?_ | refine WL.gno rfl rfl rfl rfl ?_ | refine WL.gyes rfl rfl rfl rfl (Yld.pure tab_ok rfl) ?_)
          have hw : IntKind.i64.wrap (0 - -(val l : Int)) = x := by rw [In.wrap (by simp only [In]; simp at hz; omega)]; simp at hz; omega
          rw [hw]
          exact WX.ret2 rfl rfl rfl ⟨.inl ⟨⟨by omega, by omega⟩, rfl⟩, hgx⟩
        · have hneg : neg = true := by simpa using h
          subst hneg
          repeat (first | refine WC.seq ?_ | refine WC.block ?_ | refine WC.region ?_ | refine WL.nil ?_ | refine WX.then_normal ?_ | refine WC.skip ?_ | refine WC.exit ?_ | refine WC.ret ?_ | refine WX.then_exit ?_ | refine WX.then_ret ?_ | refine WX.block_normal ?_ | refine WX.block_ret ?_ | refine WX.block_same ?_ | refine WX.block_other rfl ?_ | refine WC.label ?_ | refine WC.scope ?_ | refine WX.scope_normal ?_ | refine WX.scope_ret ?_ | refine WX.scope_exit ?_ | refine WL.y rfl (Yld.sub rfl rfl (by simp only [In]; omega)) ?_ | refine WL.y rfl (Yld.mul rfl rfl (by simp only [In]; omega)) ?_ | refine WL.y rfl (Yld.convB tab_ok rfl rfl rfl rfl) ?_ | refine WL.y rfl (Yld.conv tab_ok rfl rfl rfl (by simp only [In]; omega)) ?_ | refine WL.y rfl (Yld.pure tab_ok rfl) ?_ | refine WL.y rfl (Yld.pickV rfl rfl rfl) ?_ | refine WL.gno rfl rfl rfl rfl ?_ | refine WL.gyes rfl rfl rfl rfl (Yld.pure tab_ok rfl) ?_)
          have hw : -(val l : Int) = x := by simp at hz; omega
          rw [hw]
          exact WX.ret2 rfl rfl rfl ⟨.inl ⟨⟨by omega, by omega⟩, rfl⟩, hgx⟩
end Go.Proofs.YtilphcippnfklaaDoor
 /- The chapter's numbers: texts: plain. -/
namespace Go.Proofs.YtilphcippnfklaaDoor
open Go Go.RowKit
theorem dig1 {a : Int} (h0 : 0 ≤ a) (h1 : a < 10) : ((([48, 49, 50, 51, 52, 53, 54, 55, 56, 57] : List UInt8).drop a.toNat).take ((a + (1 : Int)).toNat - a.toNat)) = [dc a.toNat] := by
  have : ∀ n : Fin 10, ((([48, 49, 50, 51, 52, 53, 54, 55, 56, 57] : List UInt8).drop n.val).take 1) = [dc n.val] := by decide
  rw [show (a + 1).toNat - a.toNat = 1 by omega]
  exact this ⟨a.toNat, by omega⟩
theorem dc_mod {m n : Nat} (h : m % 10 = n % 10) : dc m = dc n := by unfold dc; rw [h]
theorem four_M {x : Int} {K : List UInt8 → Prop} (h0 : 0 ≤ x) (h1 : x < 10000) (k : K (fourB x)) : M_smithyref9_four x K := by
  unfold M_smithyref9_four
  rw [dig1 (a := x / 1000) (by omega) (by omega), dig1 (a := x / 100 % 10) (by omega) (by omega), dig1 (a := x / 10 % 10) (by omega) (by omega), dig1 (a := x % 10) (by omega) (by omega)]
  have e : fourB x = ((([dc (x / 1000).toNat] ++ [dc (x / 100 % 10).toNat]) ++ [dc (x / 10 % 10).toNat]) ++ [dc (x % 10).toNat]) := by
    unfold fourB
    rw [dc_mod (show x.toNat / 1000 % 10 = (x / 1000).toNat % 10 by omega), dc_mod (show x.toNat / 100 % 10 = (x / 100 % 10).toNat % 10 by omega), dc_mod (show x.toNat / 10 % 10 = (x / 10 % 10).toNat % 10 by omega), dc_mod (show x.toNat % 10 = (x % 10).toNat % 10 by omega)]
    rfl
  rw [← e]
  refine ⟨⟨by omega, by omega, by simp only [In]; omega⟩, ⟨by omega, by omega, by simp only [In]; omega⟩, by omega, ⟨by omega, by omega, by simp only [In]; omega⟩, by omega, by omega, by simp only [In]; omega, by simp only [List.length_cons, List.length_nil]; omega, by simp only [In]; omega, by simp only [List.length_cons, List.length_nil]; omega, by simp, by simp only [In]; omega, by simp only [List.length_cons, List.length_nil]; omega, by simp, by simp only [In]; omega, by simp only [List.length_cons, List.length_nil]; omega, by simp, k⟩
theorem all_take {d : List UInt8} (h : ∀ j, j < d.length → digB (d.getD j 0) = true) : d.all digB = true := by
  rw [List.all_eq_true]
  intro x hx
  obtain ⟨j, hj, rfl⟩ := List.getElem_of_mem hx
  have := h j hj
  simpa [List.getD, hj] using this
theorem all_sub {d e : List UInt8} (h : d.all digB = true) (hs : ∀ x ∈ e, x ∈ d) : e.all digB = true := by
  rw [List.all_eq_true] at h ⊢
  exact fun x hx => h x (hs x hx)
theorem rtext_M {s : Bool} {L : List Int} {z : Int} {m : Nat} {K : List UInt8 → Prop} (h : RN s L z m) (hm : m ≤ 10000) (k : K (txt z)) : M_smithyref9_Num_Text s L K := by
  intro _
  have hl := h.len
  refine ⟨by simp only [In]; omega, fun t i => -1 ≤ i ∧ i < L.length ∧ t = tops (L.drop (i + 1).toNat), fun _ i => (i + 1).toNat, ⟨by omega, by omega, ?_⟩, fun t i ⟨a0, a1, a2⟩ => ⟨fun hi => ?_, fun hi => ?_⟩⟩
  · rw [List.drop_eq_nil_of_le (by omega)]; rfl
  · have g := h.cn.1.getD i.toNat
    refine ⟨by omega, four_M g.1 g.2 ⟨?_, by simp only [In]; omega, ⟨by omega, by omega, ?_⟩, by dsimp only; omega⟩⟩
    · rw [a2, tops_len, List.length_drop]; simp [fourB]; omega
    · rw [show (i - 1 + 1).toNat = i.toNat by omega, tops_drop L (by omega), a2, show (i + 1).toNat = i.toNat + 1 by omega]
  · have ht : t = tops L := by rw [a2, show (i + 1).toNat = 0 by omega, List.drop_zero]
    obtain ⟨hv, hd⟩ := tops_spec h.cn.1
    rw [← ht] at hv hd
    have htl : t.length ≤ 40000 := by rw [ht, tops_len]; omega
    refine ⟨fun kk => 0 ≤ kk ∧ kk ≤ t.length ∧ ∀ j, j < kk.toNat → t.getD j 0 = 48, fun kk => (t.length - kk).toNat, ⟨by omega, by omega, fun j hj => by simp at hj⟩, fun kk ⟨b0, b1, b2⟩ => ⟨fun h1 => ?_, fun h1 => ?_, fun h1 => ⟨by omega, ?_⟩⟩⟩
    · rw [decide_eq_true_eq] at h1; omega
    · rw [Bool.and_eq_true, decide_eq_true_eq, decide_eq_true_eq] at h1
      refine ⟨by simp only [In]; omega, ⟨by omega, by omega, fun j hj => ?_⟩, by dsimp only; omega⟩
      by_cases e : j = kk.toNat
      · rw [e]; exact UInt8.toNat_inj.mp (by have := h1.2; rw [show (48 : UInt8).toNat = 48 from rfl]; omega)
      · exact b2 j (by omega)
    · rw [Bool.and_eq_false_iff, decide_eq_false_iff_not, decide_eq_false_iff_not] at h1
      have hdv := dval_drop_zeros kk.toNat t b2 (by omega)
      have hh : (t.drop kk.toNat).head? ≠ some 48 := by
        intro e
        rw [List.head?_drop] at e
        obtain ⟨hlt, he⟩ := List.getElem?_eq_some_iff.1 e
        rcases h1 with h1 | h1
        · omega
        · apply h1
          simp [List.getD, hlt, he]
      have hall : (t.drop kk.toNat).all digB = true := all_sub hd fun x hx => List.mem_of_mem_drop hx
      have hz : z = if s = true then -(dval (t.drop kk.toNat) : Int) else dval (t.drop kk.toNat) := by
        rw [hdv, hv, h.val]
        cases s <;> rfl
      have hx := txt_of_digits hall hh s
      rw [← hz] at hx
      rw [hx] at k
      refine ⟨fun h2 => ?_, fun h2 => ⟨fun h3 => ⟨by simp only [List.length_cons, List.length_nil, List.length_drop]; omega, ?_⟩, fun h3 => ?_⟩⟩
      · rw [if_pos h2] at k; exact k
      · rw [if_neg h2, if_pos h3] at k; exact k
      · rw [if_neg h2, if_neg (by rw [h3]; decide)] at k; exact k
theorem rdigits_M {s : Bool} {L : List Int} {z : Int} {m : Nat} {K : Int → Prop} (h : RN s L z m) (hm : m ≤ 10000) (hl : (txt z).length ≤ 1000000) (k : K ((cutm (txt z)).length : Int)) : M_smithyref9_Num_Digits s L K := by
  intro _
  refine rtext_M h hm ?_
  have hs := h.sign
  have key : (s = true → ((cutm (txt z)).length : Int) = ((txt z).length : Int) - 1) ∧ (s = false → cutm (txt z) = txt z) := by
    constructor
    · intro e
      rw [e] at hs
      have hz := of_decide_eq_true hs.symm
      have : txt z = 45 :: (dd z.natAbs).reverse := by unfold txt; rw [if_neg (by omega), if_pos hz]; rfl
      rw [this]
      simp [cutm, isPre]
    · intro e
      rw [e] at hs
      have hz := of_decide_eq_false hs.symm
      by_cases h0 : z = 0
      · subst h0; decide
      · have : txt z = (dd z.natAbs).reverse := by unfold txt; rw [if_neg h0, if_neg hz]; rfl
        rw [this]
        unfold cutm
        rw [if_neg]
        intro hp
        have hp' := (of_decide_eq_true hp).2
        have hm1 : (45 : UInt8) ∈ (dd z.natAbs).reverse := by
          have := List.mem_of_mem_take (l := (dd z.natAbs).reverse) (i := 1) (a := 45)
          exact this (by simp at hp' ⊢; rw [hp']; simp)
        have hdig : ∀ n : Nat, ∀ c ∈ dd n, 48 ≤ c.toNat := by
          intro n
          induction n using Nat.strongRecOn with
          | _ n ih =>
            intro c hc
            rcases Nat.eq_zero_or_pos n with e0 | e0
            · rw [e0, dd_zero] at hc; cases hc
            · rw [dd_pos e0] at hc
              rcases List.mem_cons.1 hc with hc | hc
              · rw [hc, dc_toNat]; omega
              · exact ih (n / 10) (by omega) c hc
        have := hdig _ 45 (List.mem_reverse.1 hm1)
        revert this; decide
  refine ⟨fun e => ⟨by simp only [In]; omega, ?_⟩, fun e => ?_⟩
  · rw [← key.1 e]; exact k
  · rw [key.2 e] at k; exact k
theorem isPre_is (s : List UInt8) : isPre [45] s = (decide ((0 : Int) < (s.length : Int)) && decide (((s.getD 0 0).toNat : Int) = (45 : Int))) := by
  rw [Bool.eq_iff_iff]
  unfold isPre
  cases s with
  | nil => simp
  | cons c s =>
    simp only [decide_eq_true_eq, Bool.and_eq_true, List.length_cons, List.length_nil, List.getD_cons_zero]
    constructor
    · rintro ⟨_, h⟩
      have : c = 45 := by simpa using h
      subst this
      exact ⟨by omega, rfl⟩
    · rintro ⟨_, h⟩
      have : c = 45 := UInt8.toNat_inj.mp (by rw [show (45 : UInt8).toNat = 45 from rfl]; omega)
      subst this
      exact ⟨by omega, by simp⟩
theorem chunk_cut (d : List UInt8) {lo e : Nat} (h : lo ≤ e) (he : e ≤ d.length) : dval (d.take e) = dval (d.take lo) * 10 ^ (e - lo) + dval ((d.take e).drop lo) := by
  have h1 := dval_app (d.take lo) ((d.take e).drop lo)
  have h2 : d.take lo ++ (d.take e).drop lo = d.take e := by
    have := List.take_append_drop lo (d.take e)
    rw [List.take_take, Nat.min_eq_left h] at this
    exact this
  rw [h2] at h1
  rw [h1]
  have h3 : ((d.take e).drop lo).length = e - lo := by simp; omega
  rw [h3]
theorem chunk_push (d : List UInt8) {lo i : Nat} (h : lo ≤ i) (hi : i < d.length) : (d.take (i + 1)).drop lo = (d.take i).drop lo ++ [d.getD i 0] := by
  rw [List.take_succ_eq_append_getElem hi, List.drop_append_of_le_length (by rw [List.length_take]; omega)]
  simp [List.getD, hi]
theorem rparse_M {s : List UInt8} {m : Nat} {K : Bool → List Int → Bool → Prop} (hs : s.length ≤ m) (hm : m ≤ 1000) (h1 : shape s = true → ∀ n L, RN n L (sval s) m → K n L true) (h0 : shape s = false → K false [] false) : M_smithyref9_Parse s K := by
  refine ⟨fun h => by rw [decide_eq_true_eq] at h; omega, fun d => d = cutm s, ⟨fun h => ?_, fun h => ?_⟩, ?_⟩
  · rw [← isPre_is] at h
    refine ⟨?_, by unfold cutm; rw [if_pos h]⟩
    rw [isPre_is, Bool.and_eq_true, decide_eq_true_eq] at h
    omega
  · rw [← isPre_is] at h
    unfold cutm
    rw [if_neg (by rw [h]; decide)]
  rintro d hd
  have hdl : d.length ≤ m := by
    rw [hd]; unfold cutm
    split
    · rw [List.length_drop]; omega
    · exact hs
  rw [← isPre_is]
  have hsh : shape s = (!lead d (isPre [45] s) && d.all digB) := by rw [hd]; rfl
  have hsv : sval s = bif isPre [45] s then -(dval d : Int) else dval d := by rw [hd]; rfl
  generalize isPre [45] s = neg at *
  refine ⟨fun i _ _ => 0 ≤ i ∧ i ≤ d.length ∧ ∀ j, j < i.toNat → digB (d.getD j 0) = true, fun i _ _ => (d.length - i).toNat, ⟨by omega, by omega, fun j hj => by simp at hj⟩, fun i _ _ ⟨a0, a1, a2⟩ => ⟨fun hi => ⟨by omega, fun _ => by omega, fun hb => ?_, fun hb => ?_⟩, fun hi => ?_⟩⟩
  · apply h0
    rw [hsh, Bool.and_eq_false_iff]
    right
    rw [← Bool.not_eq_true, List.all_eq_true]
    intro hall
    have := hall _ (show d.getD i.toNat 0 ∈ d by simp [List.getD, show i.toNat < d.length by omega])
    unfold digB at this
    rw [decide_eq_true_eq] at this
    rw [Bool.or_eq_true, decide_eq_true_eq, decide_eq_true_eq] at hb
    omega
  · rw [Bool.or_eq_false_iff, decide_eq_false_iff_not, decide_eq_false_iff_not] at hb
    refine ⟨by simp only [In]; omega, ⟨by omega, by omega, fun j hj => ?_⟩, by dsimp only; omega⟩
    by_cases e : j = i.toNat
    · rw [e]; exact decide_eq_true (by omega)
    · exact a2 j (by omega)
  have hall : d.all digB = true := all_take fun j hj => a2 j (by omega)
  have hlead : (decide (d = ([] : List UInt8)) || (decide (((d.getD 0 0).toNat : Int) = (48 : Int)) && (decide ((1 : Int) < (d.length : Int)) || neg))) = lead d neg := by
    rw [Bool.eq_iff_iff]
    unfold lead
    simp only [decide_eq_true_eq, Bool.or_eq_true, Bool.and_eq_true]
    have : (((d.getD 0 0).toNat : Int) = 48) ↔ d.getD 0 0 = 48 := ⟨fun h => UInt8.toNat_inj.mp (by rw [show (48 : UInt8).toNat = 48 from rfl]; omega), fun h => by rw [h]; rfl⟩
    rw [this]
    constructor
    · rintro (h | ⟨h, h2⟩)
      · exact .inl h
      · exact .inr ⟨h, h2.imp (fun h => by omega) id⟩
    · rintro (h | ⟨h, h2⟩)
      · exact .inl h
      · exact .inr ⟨h, h2.imp (fun h => by omega) id⟩
  rw [hlead]
  refine ⟨fun hne => ?_, fun hb => h0 (by rw [hsh, hb]; rfl), fun hb => ?_⟩
  · have : d ≠ [] := of_decide_eq_false hne
    have := List.length_pos_iff.2 this
    omega
  have hshape : shape s = true := by rw [hsh, hb, hall]; rfl
  refine ⟨fun l e => e ≤ d.length ∧ Lb l ∧ l.length + e.toNat ≤ d.length ∧ lv l + 10000 ^ l.length * (dval (d.take e.toNat) : Int) = dval d, fun _ e => e.toNat, ⟨by omega, Lb.nil, by simp, by simp [lv]⟩, fun l e ⟨b0, b1, b2, b3⟩ => ⟨fun he => ⟨by simp only [In]; omega, ?_⟩, fun he => ?_⟩⟩
  · generalize hlo : (if (0 : Int) < (e - (4 : Int)) then e - (4 : Int) else (0 : Int)) = lo
    have hlo2 : 0 ≤ lo ∧ lo < e ∧ e ≤ lo + 4 ∧ lo.toNat = (e - 4).toNat := by split at hlo <;> omega
    refine ⟨fun x i => lo ≤ i ∧ i ≤ e ∧ x = dval ((d.take i.toNat).drop lo.toNat), fun _ i => (e - i).toNat, ⟨by omega, by omega, ?_⟩, fun x i ⟨c0, c1, c2⟩ => ⟨fun hi => ?_, fun hi => ?_⟩⟩
    · rw [List.drop_eq_nil_of_le (by rw [List.length_take]; omega)]; rfl
    all_goals
      have hx : x < 10000 := by
        have h3 : ((d.take i.toNat).drop lo.toNat).all digB = true := all_sub hall fun x hx => List.mem_of_mem_take (List.mem_of_mem_drop hx)
        have h4 := dval_lt h3
        have h5 : 10 ^ ((d.take i.toNat).drop lo.toNat).length ≤ 10 ^ 4 := Nat.pow_le_pow_right (by omega) (by rw [List.length_drop, List.length_take]; omega)
        rw [c2]; omega
      have hx0 : 0 ≤ x := by rw [c2]; omega
    · have hc := a2 i.toNat (by omega)
      unfold digB at hc
      rw [decide_eq_true_eq] at hc
      refine ⟨by simp only [In]; omega, by omega, by simp only [In]; omega, by simp only [In]; omega, by simp only [In]; omega, by simp only [In]; omega, ⟨by omega, by omega, ?_⟩, by dsimp only; omega⟩
      rw [show (i + 1).toNat = i.toNat + 1 by omega, chunk_push d (by omega) (by omega), dval_push, c2]
      omega
    · obtain rfl : i = e := by omega
      refine ⟨by simp only [List.length_singleton]; omega, by simp only [In]; omega, ⟨by omega, b1.push hx0 hx, by simp only [List.length_append, List.length_singleton]; omega, ?_⟩, by dsimp only; omega⟩
      have hcut := chunk_cut d (lo := lo.toNat) (e := i.toNat) (by omega) (by omega)
      have hcut2 : (dval (d.take i.toNat) : Int) = x + 10000 * dval (d.take (i - 4).toNat) := by
        rw [← hlo2.2.2.2, hcut, c2]
        by_cases h4 : 4 ≤ i
        · rw [show i.toNat - lo.toNat = 4 by omega]; omega
        · rw [show lo.toNat = 0 by omega]; simp [dval]
      rw [lv_push, List.length_append, List.length_singleton, lpow_succ]
      rw [hcut2] at b3
      generalize (10000 : Int) ^ l.length = P at *
      rw [← b3]
      grind
  · have h4 : lv l = dval d := by
      rw [show e.toNat = 0 by omega] at b3
      simpa [dval] using b3
    exact trimR_M b1 (m := m) (by omega) (by omega) (by rw [hsv, h4]) fun n L hN => h1 hshape n L hN
instance decIn64 (x : Int) : Decidable (In64 x) := inferInstanceAs (Decidable (-9223372036854775808 ≤ x ∧ x ≤ 9223372036854775807))
theorem rint_M {s : Bool} {a : List Int} {z : Int} {m : Nat} {K : Int → Bool → Prop} (h : RN s a z m) (hm : 5 ≤ m ∧ m ≤ 4000) (h1 : In64 z → K z true) (h0 : ¬ In64 z → K 0 false) : M_smithyref9_Num_Int s a K := by
  intro _
  have hl := h.len
  refine of_M (by simp only [In]; omega) fun n1 L1 g1 => cmp_M h (g1.mono hm.1) (by omega) ?_
  refine ⟨fun q => q = decide (¬ In64 z), ⟨fun hc => ?_, fun hc => of_M (by simp only [In]; omega) fun n2 L2 g2 => cmp_M h (g2.mono hm.1) (by omega) ?_⟩, fun q hq => ⟨fun e => h0 (of_decide_eq_true (hq.symm.trans e)), fun e => ?_⟩⟩
  · rw [decide_eq_true_eq] at hc
    refine (decide_eq_true ?_).symm
    unfold In64
    split at hc
    · omega
    · split at hc <;> omega
  · rw [decide_eq_false_iff_not] at hc
    rw [Bool.eq_iff_iff, decide_eq_true_eq, decide_eq_true_eq]
    unfold In64
    split at hc
    · omega
    · split
      · omega
      · split <;> omega
  · have hin : In64 z := by
      have := of_decide_eq_false (hq.symm.trans e)
      exact Decidable.not_not.1 this
    have hin' := hin
    unfold In64 at hin'
    have habs := h.abs
    refine ⟨by simp only [In]; omega, fun n i => -1 ≤ i ∧ i < a.length ∧ n = -lv (a.drop (i + 1).toNat), fun _ i => (i + 1).toNat, ⟨by omega, by omega, ?_⟩, fun n i ⟨a0, a1, a2⟩ => ⟨fun hi => ?_, fun hi => ?_⟩⟩
    · rw [List.drop_eq_nil_of_le (by omega)]; rfl
    · have g := h.cn.1.getD i.toNat
      have hd := lv_drop a i.toNat
      rw [show (i + 1).toNat = i.toNat + 1 by omega] at a2
      have hsp := lv_split a i.toNat
      have ht := lv_nonneg (h.cn.1.take i.toNat)
      have hdn := lv_nonneg (h.cn.1.drop i.toNat)
      have hdn2 := lv_nonneg (h.cn.1.drop (i.toNat + 1))
      have hp := lpow_pos i.toNat
      have hge : lv (a.drop i.toNat) ≤ 10000 ^ i.toNat * lv (a.drop i.toNat) := by
        have := Int.mul_le_mul_of_nonneg_right (show (1 : Int) ≤ 10000 ^ i.toNat by omega) hdn
        omega
      refine ⟨by simp only [In]; omega, by omega, by simp only [In]; omega, by simp only [In]; omega, ⟨by omega, by omega, ?_⟩, by dsimp only; omega⟩
      rw [show (i - 1 + 1).toNat = i.toNat by omega]
      omega
    · rw [show (i + 1).toNat = 0 by omega, List.drop_zero] at a2
      have hval := h.val
      refine ⟨fun n2 => n2 = z, ⟨fun h2 => ⟨?_, ?_⟩, fun h2 => ?_⟩, fun n2 hn2 => by rw [hn2]; exact h1 hin⟩
      · have e2 : s = false := by simpa using h2
        rw [e2] at hval
        simp only [cond_false] at hval
        simp only [In]; omega
      · have e2 : s = false := by simpa using h2
        rw [e2] at hval
        simp only [cond_false] at hval
        omega
      · have e2 : s = true := by simpa using h2
        rw [e2] at hval
        simp only [cond_true] at hval
        omega
end Go.Proofs.YtilphcippnfklaaDoor
 namespace Go.Proofs.YtilphcippnfklaaDoor
open Go Go.RowKit
attribute [local irreducible] WL WC WX WQ WK Yld Eff Ef0 Fn
theorem div_fn (va vb_ : Value) (x y : Int) (m : Nat) (w : World) (ha : Nm w va x m) (hb : Nm w vb_ y m) (hm : m ≤ 90000) : Fn Tryd.prog 27 ⟨[va, vb_]⟩ w fun v w' => (∃ u uz, v = .tuple #[u, .bool (!decide (y = 0))] ∧ Nm w' u uz (m + 4) ∧ (y ≠ 0 → ∃ oz, Floor x y uz oz) ∧ (y = 0 → uz = 0)) ∧ w.grownBy w' none := by
  obtain ⟨a1, a2, rfl, ho1, ho2⟩ := ha.agg
  obtain ⟨b1, b2, rfl, ho3, ho4⟩ := hb.agg
  refine Fn.enter (by kernel_rfl) Tryd.func27 rfl Tryd.ntmps27 rfl ?_
  repeat (first | refine WC.seq ?_ | refine WC.block ?_ | refine WC.region ?_ | refine WL.nil ?_ | refine WX.then_normal ?_ | refine WC.skip ?_ | refine WC.exit ?_ | refine WC.ret ?_ | refine WX.then_exit ?_ | refine WX.then_ret ?_ | refine WX.block_normal ?_ | refine WX.block_ret ?_ | refine WX.block_same ?_ | refine WX.block_other rfl ?_ | refine WC.label ?_ | refine WC.scope ?_ | refine WX.scope_normal ?_ | refine WX.scope_ret ?_ | refine WX.scope_exit ?_ | refine WL.y rfl (Yld.pure tab_ok rfl) ?_)
  refine WL.box (us := [a1, a2]) rfl rfl rfl (fun g1 w1 hB1 hg1 hl1 => ?_)
  repeat (first | refine WC.seq ?_ | refine WC.block ?_ | refine WC.region ?_ | refine WL.nil ?_ | refine WX.then_normal ?_ | refine WC.skip ?_ | refine WC.exit ?_ | refine WC.ret ?_ | refine WX.then_exit ?_ | refine WX.then_ret ?_ | refine WX.block_normal ?_ | refine WX.block_ret ?_ | refine WX.block_same ?_ | refine WX.block_other rfl ?_ | refine WC.label ?_ | refine WC.scope ?_ | refine WX.scope_normal ?_ | refine WX.scope_ret ?_ | refine WX.scope_exit ?_ | refine WL.y rfl (Yld.pure tab_ok rfl) ?_)
  refine WL.box (us := [b1, b2]) rfl rfl rfl (fun g2 w2 hB2 hg2 hl2 => ?_)
  repeat (first | refine WC.seq ?_ | refine WC.block ?_ | refine WC.region ?_ | refine WL.nil ?_ | refine WX.then_normal ?_ | refine WC.skip ?_ | refine WC.exit ?_ | refine WC.ret ?_ | refine WX.then_exit ?_ | refine WX.then_ret ?_ | refine WX.block_normal ?_ | refine WX.block_ret ?_ | refine WX.block_same ?_ | refine WX.block_other rfl ?_ | refine WC.label ?_ | refine WC.scope ?_ | refine WX.scope_normal ?_ | refine WX.scope_ret ?_ | refine WX.scope_exit ?_ | refine WL.y rfl (Yld.pure tab_ok rfl) ?_)
  refine WL.alloc rfl zero44 (fun g4 w3 hB4 hg3 hl4 => ?_)
  have hB13 := (hB1.keep hg2 (by simp)).keep hg3 (by simp)
  have hB23 := hB2.keep hg3 (by simp)
  have hg13 := gr_trans (gr_trans hg1 hg2) hg3
  have hlt4 := hB4.lt
  have hz1 := hg1.size
  have hz2 := hg2.size
  have hz3 := hg3.size
  repeat (first | refine WC.seq ?_ | refine WC.block ?_ | refine WC.region ?_ | refine WL.nil ?_ | refine WX.then_normal ?_ | refine WC.skip ?_ | refine WC.exit ?_ | refine WC.ret ?_ | refine WX.then_exit ?_ | refine WX.then_ret ?_ | refine WX.block_normal ?_ | refine WX.block_ret ?_ | refine WX.block_same ?_ | refine WX.block_other rfl ?_ | refine WC.label ?_ | refine WC.scope ?_ | refine WX.scope_normal ?_ | refine WX.scope_ret ?_ | refine WX.scope_exit ?_ | refine WL.y rfl (Yld.pure tab_ok rfl) ?_)
  refine WL.y rfl (Yld.bagg (vs := [a1, a2]) tab_ok hB13 rfl rfl rfl rfl) ?_
  refine WL.y rfl (Yld.bagg (vs := [b1, b2]) tab_ok hB23 rfl rfl rfl rfl) ?_
  refine WL.call rfl rfl (floor_fn _ _ x y m w3 (ha.grown hg13) (hb.grown hg13) hm) ?_
  rintro _ w5 ⟨⟨q, r, qz, rz, rfl, hNq, hNr, hfl⟩, hg5⟩
  have hz5 := hg5.size
  repeat (first | refine WC.seq ?_ | refine WC.block ?_ | refine WC.region ?_ | refine WL.nil ?_ | refine WX.then_normal ?_ | refine WC.skip ?_ | refine WC.exit ?_ | refine WC.ret ?_ | refine WX.then_exit ?_ | refine WX.then_ret ?_ | refine WX.block_normal ?_ | refine WX.block_ret ?_ | refine WX.block_same ?_ | refine WX.block_other rfl ?_ | refine WC.label ?_ | refine WC.scope ?_ | refine WX.scope_normal ?_ | refine WX.scope_ret ?_ | refine WX.scope_exit ?_ | refine WL.y rfl (Yld.pure tab_ok rfl) ?_)
  refine WL.alloc rfl zero44 (fun g6 w6 hB6 hg6 hl6 => ?_)
  have hz6 := hg6.size
  have hlt6 := hB6.lt
  refine WL.alloc rfl zero44 (fun g7 w7 hB7 hg7 hl7 => ?_)
  have hlt7 := hB7.lt
  obtain ⟨c1, c2, rfl, ho5, ho6⟩ := hNq.agg
  obtain ⟨d1, d2, rfl, ho7, ho8⟩ := hNr.agg
  have hB67 := hB6.keep hg7 (by simp)
  refine WL.storeW (vs := [c1, c2]) tab_ok rfl rfl rfl (by intro u hu; simp at hu; rcases hu with rfl | rfl <;> assumption) hB67 rfl rfl (fun w8 hB8 hg8 => ?_)
  have hB78 := hB7.keep hg8 (by simp; omega)
  refine WL.storeW (vs := [d1, d2]) tab_ok rfl rfl rfl (by intro u hu; simp at hu; rcases hu with rfl | rfl <;> assumption) hB78 rfl rfl (fun w9 hB9 hg9 => ?_)
  have hB89 := hB8.keep hg9 (by simp; omega)
  have hg39 : w3.grownBy w9 none := gr_new (gr_new (gr_trans (gr_trans hg5 hg6) hg7) hg8 (by omega)) hg9 (by omega)
  have hB49 := hB4.keep hg39 (by simp)
  repeat (first | refine WC.seq ?_ | refine WC.block ?_ | refine WC.region ?_ | refine WL.nil ?_ | refine WX.then_normal ?_ | refine WC.skip ?_ | refine WC.exit ?_ | refine WC.ret ?_ | refine WX.then_exit ?_ | refine WX.then_ret ?_ | refine WX.block_normal ?_ | refine WX.block_ret ?_ | refine WX.block_same ?_ | refine WX.block_other rfl ?_ | refine WC.label ?_ | refine WC.scope ?_ | refine WX.scope_normal ?_ | refine WX.scope_ret ?_ | refine WX.scope_exit ?_ | refine WL.y rfl (Yld.pure tab_ok rfl) ?_)
  refine WL.y rfl (Yld.bagg (vs := [c1, c2]) tab_ok hB89 rfl rfl rfl rfl) ?_
  repeat (first | refine WC.seq ?_ | refine WC.block ?_ | refine WC.region ?_ | refine WL.nil ?_ | refine WX.then_normal ?_ | refine WC.skip ?_ | refine WC.exit ?_ | refine WC.ret ?_ | refine WX.then_exit ?_ | refine WX.then_ret ?_ | refine WX.block_normal ?_ | refine WX.block_ret ?_ | refine WX.block_same ?_ | refine WX.block_other rfl ?_ | refine WC.label ?_ | refine WC.scope ?_ | refine WX.scope_normal ?_ | refine WX.scope_ret ?_ | refine WX.scope_exit ?_ | refine WL.y rfl (Yld.pure tab_ok rfl) ?_)
  have hN9 := ((((hNq.grown hg6).grown hg7).stored hB67 zero_no hg8).stored hB78 zero_no hg9)
  refine WL.storeW (vs := [c1, c2]) tab_ok rfl rfl rfl (by intro u hu; simp at hu; rcases hu with rfl | rfl <;> assumption) hB49 rfl rfl (fun wa hBa hga => ?_)
  repeat (first | refine WC.seq ?_ | refine WC.block ?_ | refine WC.region ?_ | refine WL.nil ?_ | refine WX.then_normal ?_ | refine WC.skip ?_ | refine WC.exit ?_ | refine WC.ret ?_ | refine WX.then_exit ?_ | refine WX.then_ret ?_ | refine WX.block_normal ?_ | refine WX.block_ret ?_ | refine WX.block_same ?_ | refine WX.block_other rfl ?_ | refine WC.label ?_ | refine WC.scope ?_ | refine WX.scope_normal ?_ | refine WX.scope_ret ?_ | refine WX.scope_exit ?_ | refine WL.y rfl (Yld.pure tab_ok rfl) ?_)
  exact WX.retct tab_ok rfl rfl rfl hBa rfl rfl ⟨⟨_, qz, rfl, hN9.stored hB49 zero_no hga, ⟨fun h => ⟨rz, hfl.1 h⟩, fun h => (hfl.2 h).1⟩⟩, gr_new (gr_trans hg13 hg39) hga (by omega)⟩
theorem mod_fn (va vb_ : Value) (x y : Int) (m : Nat) (w : World) (ha : Nm w va x m) (hb : Nm w vb_ y m) (hm : m ≤ 90000) : Fn Tryd.prog 28 ⟨[va, vb_]⟩ w fun v w' => (∃ u uz, v = .tuple #[u, .bool (!decide (y = 0))] ∧ Nm w' u uz (m + 4) ∧ (y ≠ 0 → ∃ oz, Floor x y oz uz) ∧ (y = 0 → uz = 0)) ∧ w.grownBy w' none := by
  obtain ⟨a1, a2, rfl, ho1, ho2⟩ := ha.agg
  obtain ⟨b1, b2, rfl, ho3, ho4⟩ := hb.agg
  refine Fn.enter (by kernel_rfl) Tryd.func28 rfl Tryd.ntmps28 rfl ?_
  repeat (first | refine WC.seq ?_ | refine WC.block ?_ | refine WC.region ?_ | refine WL.nil ?_ | refine WX.then_normal ?_ | refine WC.skip ?_ | refine WC.exit ?_ | refine WC.ret ?_ | refine WX.then_exit ?_ | refine WX.then_ret ?_ | refine WX.block_normal ?_ | refine WX.block_ret ?_ | refine WX.block_same ?_ | refine WX.block_other rfl ?_ | refine WC.label ?_ | refine WC.scope ?_ | refine WX.scope_normal ?_ | refine WX.scope_ret ?_ | refine WX.scope_exit ?_ | refine WL.y rfl (Yld.pure tab_ok rfl) ?_)
  refine WL.box (us := [a1, a2]) rfl rfl rfl (fun g1 w1 hB1 hg1 hl1 => ?_)
  repeat (first | refine WC.seq ?_ | refine WC.block ?_ | refine WC.region ?_ | refine WL.nil ?_ | refine WX.then_normal ?_ | refine WC.skip ?_ | refine WC.exit ?_ | refine WC.ret ?_ | refine WX.then_exit ?_ | refine WX.then_ret ?_ | refine WX.block_normal ?_ | refine WX.block_ret ?_ | refine WX.block_same ?_ | refine WX.block_other rfl ?_ | refine WC.label ?_ | refine WC.scope ?_ | refine WX.scope_normal ?_ | refine WX.scope_ret ?_ | refine WX.scope_exit ?_ | refine WL.y rfl (Yld.pure tab_ok rfl) ?_)
  refine WL.box (us := [b1, b2]) rfl rfl rfl (fun g2 w2 hB2 hg2 hl2 => ?_)
  repeat (first | refine WC.seq ?_ | refine WC.block ?_ | refine WC.region ?_ | refine WL.nil ?_ | refine WX.then_normal ?_ | refine WC.skip ?_ | refine WC.exit ?_ | refine WC.ret ?_ | refine WX.then_exit ?_ | refine WX.then_ret ?_ | refine WX.block_normal ?_ | refine WX.block_ret ?_ | refine WX.block_same ?_ | refine WX.block_other rfl ?_ | refine WC.label ?_ | refine WC.scope ?_ | refine WX.scope_normal ?_ | refine WX.scope_ret ?_ | refine WX.scope_exit ?_ | refine WL.y rfl (Yld.pure tab_ok rfl) ?_)
  refine WL.alloc rfl zero44 (fun g4 w3 hB4 hg3 hl4 => ?_)
  have hB13 := (hB1.keep hg2 (by simp)).keep hg3 (by simp)
  have hB23 := hB2.keep hg3 (by simp)
  have hg13 := gr_trans (gr_trans hg1 hg2) hg3
  have hlt4 := hB4.lt
  have hz1 := hg1.size
  have hz2 := hg2.size
  have hz3 := hg3.size
  repeat (first | refine WC.seq ?_ | refine WC.block ?_ | refine WC.region ?_ | refine WL.nil ?_ | refine WX.then_normal ?_ | refine WC.skip ?_ | refine WC.exit ?_ | refine WC.ret ?_ | refine WX.then_exit ?_ | refine WX.then_ret ?_ | refine WX.block_normal ?_ | refine WX.block_ret ?_ | refine WX.block_same ?_ | refine WX.block_other rfl ?_ | refine WC.label ?_ | refine WC.scope ?_ | refine WX.scope_normal ?_ | refine WX.scope_ret ?_ | refine WX.scope_exit ?_ | refine WL.y rfl (Yld.pure tab_ok rfl) ?_)
  refine WL.y rfl (Yld.bagg (vs := [a1, a2]) tab_ok hB13 rfl rfl rfl rfl) ?_
  refine WL.y rfl (Yld.bagg (vs := [b1, b2]) tab_ok hB23 rfl rfl rfl rfl) ?_
  refine WL.call rfl rfl (floor_fn _ _ x y m w3 (ha.grown hg13) (hb.grown hg13) hm) ?_
  rintro _ w5 ⟨⟨q, r, qz, rz, rfl, hNq, hNr, hfl⟩, hg5⟩
  have hz5 := hg5.size
  repeat (first | refine WC.seq ?_ | refine WC.block ?_ | refine WC.region ?_ | refine WL.nil ?_ | refine WX.then_normal ?_ | refine WC.skip ?_ | refine WC.exit ?_ | refine WC.ret ?_ | refine WX.then_exit ?_ | refine WX.then_ret ?_ | refine WX.block_normal ?_ | refine WX.block_ret ?_ | refine WX.block_same ?_ | refine WX.block_other rfl ?_ | refine WC.label ?_ | refine WC.scope ?_ | refine WX.scope_normal ?_ | refine WX.scope_ret ?_ | refine WX.scope_exit ?_ | refine WL.y rfl (Yld.pure tab_ok rfl) ?_)
  refine WL.alloc rfl zero44 (fun g6 w6 hB6 hg6 hl6 => ?_)
  have hz6 := hg6.size
  have hlt6 := hB6.lt
  refine WL.alloc rfl zero44 (fun g7 w7 hB7 hg7 hl7 => ?_)
  have hlt7 := hB7.lt
  obtain ⟨c1, c2, rfl, ho5, ho6⟩ := hNq.agg
  obtain ⟨d1, d2, rfl, ho7, ho8⟩ := hNr.agg
  have hB67 := hB6.keep hg7 (by simp)
  refine WL.storeW (vs := [c1, c2]) tab_ok rfl rfl rfl (by intro u hu; simp at hu; rcases hu with rfl | rfl <;> assumption) hB67 rfl rfl (fun w8 hB8 hg8 => ?_)
  have hB78 := hB7.keep hg8 (by simp; omega)
  refine WL.storeW (vs := [d1, d2]) tab_ok rfl rfl rfl (by intro u hu; simp at hu; rcases hu with rfl | rfl <;> assumption) hB78 rfl rfl (fun w9 hB9 hg9 => ?_)
  have hB89 := hB8.keep hg9 (by simp; omega)
  have hg39 : w3.grownBy w9 none := gr_new (gr_new (gr_trans (gr_trans hg5 hg6) hg7) hg8 (by omega)) hg9 (by omega)
  have hB49 := hB4.keep hg39 (by simp)
  repeat (first | refine WC.seq ?_ | refine WC.block ?_ | refine WC.region ?_ | refine WL.nil ?_ | refine WX.then_normal ?_ | refine WC.skip ?_ | refine WC.exit ?_ | refine WC.ret ?_ | refine WX.then_exit ?_ | refine WX.then_ret ?_ | refine WX.block_normal ?_ | refine WX.block_ret ?_ | refine WX.block_same ?_ | refine WX.block_other rfl ?_ | refine WC.label ?_ | refine WC.scope ?_ | refine WX.scope_normal ?_ | refine WX.scope_ret ?_ | refine WX.scope_exit ?_ | refine WL.y rfl (Yld.pure tab_ok rfl) ?_)
  refine WL.y rfl (Yld.bagg (vs := [d1, d2]) tab_ok hB9 rfl rfl rfl rfl) ?_
  repeat (first | refine WC.seq ?_ | refine WC.block ?_ | refine WC.region ?_ | refine WL.nil ?_ | refine WX.then_normal ?_ | refine WC.skip ?_ | refine WC.exit ?_ | refine WC.ret ?_ | refine WX.then_exit ?_ | refine WX.then_ret ?_ | refine WX.block_normal ?_ | refine WX.block_ret ?_ | refine WX.block_same ?_ | refine WX.block_other rfl ?_ | refine WC.label ?_ | refine WC.scope ?_ | refine WX.scope_normal ?_ | refine WX.scope_ret ?_ | refine WX.scope_exit ?_ | refine WL.y rfl (Yld.pure tab_ok rfl) ?_)
  have hN9 := ((((hNr.grown hg6).grown hg7).stored hB67 zero_no hg8).stored hB78 zero_no hg9)
  refine WL.storeW (vs := [d1, d2]) tab_ok rfl rfl rfl (by intro u hu; simp at hu; rcases hu with rfl | rfl <;> assumption) hB49 rfl rfl (fun wa hBa hga => ?_)
  repeat (first | refine WC.seq ?_ | refine WC.block ?_ | refine WC.region ?_ | refine WL.nil ?_ | refine WX.then_normal ?_ | refine WC.skip ?_ | refine WC.exit ?_ | refine WC.ret ?_ | refine WX.then_exit ?_ | refine WX.then_ret ?_ | refine WX.block_normal ?_ | refine WX.block_ret ?_ | refine WX.block_same ?_ | refine WX.block_other rfl ?_ | refine WC.label ?_ | refine WC.scope ?_ | refine WX.scope_normal ?_ | refine WX.scope_ret ?_ | refine WX.scope_exit ?_ | refine WL.y rfl (Yld.pure tab_ok rfl) ?_)
  exact WX.retct tab_ok rfl rfl rfl hBa rfl rfl ⟨⟨_, rz, rfl, hN9.stored hB49 zero_no hga, ⟨fun h => ⟨qz, hfl.1 h⟩, fun h => (hfl.2 h).2⟩⟩, gr_new (gr_trans hg13 hg39) hga (by omega)⟩
end Go.Proofs.YtilphcippnfklaaDoor
 namespace Go.Proofs.YtilphcippnfklaaDoor
open Go Go.RowKit
attribute [local irreducible] WL WC WX WQ WK WJ Yld Eff Ef0 Fn
theorem getD_set_eqB (l : List UInt8) (j : Nat) (d : UInt8) (h : j < l.length) : (l.set j d).getD j 0 = d := by simp [List.getD, h]
theorem getD_set_neB (l : List UInt8) (j i : Nat) (d : UInt8) (h : j ≠ i) : (l.set j d).getD i 0 = l.getD i 0 := by simp [List.getD, List.getElem?_set_ne h]
theorem gr_row {a b c : World} {row : Option Nat} (h : a.grownBy b row) (k : b.grownBy c row) : a.grownBy c row := gr_trans h k
theorem rev_end (xs ys : List UInt8) (i : Nat) (hl : ys.length = xs.length) (hi : xs.length ≤ 2 * i + 1) (h : ∀ t, t < xs.length → ys.getD t 0 = if t < i ∨ xs.length - i ≤ t then xs.getD (xs.length - 1 - t) 0 else xs.getD t 0) : ys = xs.reverse := by
  apply List.ext_getElem
  · simp [hl]
  · intro t h1 h2
    have h3 : t < xs.length := by omega
    have e := h t h3
    rw [List.getElem_reverse]
    have e1 : ys.getD t 0 = ys[t] := by simp [List.getD, h1]
    have e2 : xs.getD (xs.length - 1 - t) 0 = xs[xs.length - 1 - t] := by simp [List.getD, (by omega : xs.length - 1 - t < xs.length)]
    rw [← e1, ← e2, e]
    split
    · rfl
    · congr 1; omega
set_option maxHeartbeats 1000000 in
theorem reverse_fn (A : Option Addr) (c B : Nat) (xs : List UInt8) (w : World) (hO : Own vb w B 5 A c xs) : Fn Tryd.prog 73 ⟨[.slice A xs.length c]⟩ w fun v w' => v = .tuple #[] ∧ Own vb w' B 5 A c xs.reverse ∧ w.grownBy w' (blk A) := by
  have hlen := hO.len
  simp only [maxLen] at hlen
  refine Fn.enter (by kernel_rfl) Tryd.func73 rfl Tryd.ntmps73 rfl ?_
  repeat (first | refine WC.seq ?_ | refine WC.block ?_ | refine WC.region ?_ | refine WL.nil ?_ | refine WX.then_normal ?_ | refine WC.skip ?_ | refine WC.exit ?_ | refine WC.ret ?_ | refine WX.then_exit ?_ | refine WX.then_ret ?_ | refine WX.block_normal ?_ | refine WX.block_ret ?_ | refine WX.block_same ?_ | refine WX.block_other rfl ?_ | refine WC.label ?_ | refine WC.scope ?_ | refine WX.scope_normal ?_ | refine WX.scope_ret ?_ | refine WX.scope_exit ?_ | refine WL.y rfl (Yld.add rfl rfl (by simp only [In]; omega)) ?_ | refine WL.y rfl (Yld.sub rfl rfl (by simp only [In]; omega)) ?_ | refine WL.y rfl (Yld.mul rfl rfl (by simp only [In]; omega)) ?_ | refine WL.y rfl (Yld.convB tab_ok rfl rfl rfl rfl) ?_ | refine WL.y rfl (Yld.conv tab_ok rfl rfl rfl (by simp only [In]; omega)) ?_ | refine WL.y rfl (Yld.quo rfl rfl (by omega) (by omega) (by simp only [In]; omega)) ?_ | refine WL.y rfl (Yld.rem rfl rfl (by omega) (by omega)) ?_ | refine WL.y rfl (Yld.shl rfl rfl (by omega)) ?_ | refine WL.y rfl (Yld.shr rfl rfl (by omega)) ?_ | refine WL.y rfl (Yld.pure tab_ok rfl) ?_ | refine WL.y rfl (Yld.fld flds_ok rfl rfl rfl) ?_ | refine WL.y rfl (Yld.max2 rfl rfl) ?_ | refine WL.y rfl (Yld.min2 rfl rfl) ?_ | refine WL.y rfl (Yld.pickV rfl rfl rfl) ?_ | refine WL.gno rfl rfl rfl rfl ?_ | refine WL.gyes rfl rfl rfl rfl (Yld.add rfl rfl (by simp only [In]; omega)) ?_ | refine WL.gyes rfl rfl rfl rfl (Yld.sub rfl rfl (by simp only [In]; omega)) ?_ | refine WL.gyes rfl rfl rfl rfl (Yld.mul rfl rfl (by simp only [In]; omega)) ?_ | refine WL.gyes rfl rfl rfl rfl (Yld.convB tab_ok rfl rfl rfl rfl) ?_ | refine WL.gyes rfl rfl rfl rfl (Yld.conv tab_ok rfl rfl rfl (by simp only [In]; omega)) ?_ | refine WL.gyes rfl rfl rfl rfl (Yld.quo rfl rfl (by omega) (by omega) (by simp only [In]; omega)) ?_ | refine WL.gyes rfl rfl rfl rfl (Yld.rem rfl rfl (by omega) (by omega)) ?_ | refine WL.gyes rfl rfl rfl rfl (Yld.shl rfl rfl (by omega)) ?_ | refine WL.gyes rfl rfl rfl rfl (Yld.shr rfl rfl (by omega)) ?_ | refine WL.gyes rfl rfl rfl rfl (Yld.pure tab_ok rfl) ?_ | refine WL.gyes rfl rfl rfl rfl (Yld.fld flds_ok rfl rfl rfl) ?_ | refine WL.gyes rfl rfl rfl rfl (Yld.max2 rfl rfl) ?_ | refine WL.gyes rfl rfl rfl rfl (Yld.min2 rfl rfl) ?_ | refine WL.gyes rfl rfl rfl rfl (Yld.pickV rfl rfl rfl) ?_)
  refine WC.loop2 (S1 := Nat) (S2 := List UInt8) (fun i _ => xs.length - i) (fun i _ => [(2, vi i), (3, .int .i64 ((xs.length : Int) - 1 - (i : Int))), (0, .slice A xs.length c)])
    (fun i ys w2 => ys.length = xs.length ∧ 2 * i ≤ xs.length + 1 ∧ (∀ t, t < xs.length → ys.getD t 0 = if t < i ∨ xs.length - i ≤ t then xs.getD (xs.length - 1 - t) 0 else xs.getD t 0) ∧ Own vb w2 B 5 A c ys ∧ w.grownBy w2 (blk A))
    0 xs ⟨rfl, by omega, fun t ht => by rw [if_neg (by omega)], hO, gr_refl _ _⟩ (by rw [show (xs.length : Int) - 1 - ((0 : Nat) : Int) = (xs.length : Int) - 1 by omega]; repeat (first | exact Sub.nil | refine Sub.cons rfl ?_)) (fun i ys w2 ⟨hyl, hi, hy, hO2, hg2⟩ => ?_)
  repeat (first | refine WC.seq ?_ | refine WC.block ?_ | refine WC.region ?_ | refine WL.nil ?_ | refine WX.then_normal ?_ | refine WC.skip ?_ | refine WC.exit ?_ | refine WC.ret ?_ | refine WX.then_exit ?_ | refine WX.then_ret ?_ | refine WX.block_normal ?_ | refine WX.block_ret ?_ | refine WX.block_same ?_ | refine WX.block_other rfl ?_ | refine WC.label ?_ | refine WC.scope ?_ | refine WX.scope_normal ?_ | refine WX.scope_ret ?_ | refine WX.scope_exit ?_ | refine WL.y rfl (Yld.add rfl rfl (by simp only [In]; omega)) ?_ | refine WL.y rfl (Yld.sub rfl rfl (by simp only [In]; omega)) ?_ | refine WL.y rfl (Yld.mul rfl rfl (by simp only [In]; omega)) ?_ | refine WL.y rfl (Yld.convB tab_ok rfl rfl rfl rfl) ?_ | refine WL.y rfl (Yld.conv tab_ok rfl rfl rfl (by simp only [In]; omega)) ?_ | refine WL.y rfl (Yld.quo rfl rfl (by omega) (by omega) (by simp only [In]; omega)) ?_ | refine WL.y rfl (Yld.rem rfl rfl (by omega) (by omega)) ?_ | refine WL.y rfl (Yld.shl rfl rfl (by omega)) ?_ | refine WL.y rfl (Yld.shr rfl rfl (by omega)) ?_ | refine WL.y rfl (Yld.pure tab_ok rfl) ?_ | refine WL.y rfl (Yld.fld flds_ok rfl rfl rfl) ?_ | refine WL.y rfl (Yld.max2 rfl rfl) ?_ | refine WL.y rfl (Yld.min2 rfl rfl) ?_ | refine WL.y rfl (Yld.pickV rfl rfl rfl) ?_ | refine WL.gno rfl rfl rfl rfl ?_ | refine WL.gyes rfl rfl rfl rfl (Yld.add rfl rfl (by simp only [In]; omega)) ?_ | refine WL.gyes rfl rfl rfl rfl (Yld.sub rfl rfl (by simp only [In]; omega)) ?_ | refine WL.gyes rfl rfl rfl rfl (Yld.mul rfl rfl (by simp only [In]; omega)) ?_ | refine WL.gyes rfl rfl rfl rfl (Yld.convB tab_ok rfl rfl rfl rfl) ?_ | refine WL.gyes rfl rfl rfl rfl (Yld.conv tab_ok rfl rfl rfl (by simp only [In]; omega)) ?_ | refine WL.gyes rfl rfl rfl rfl (Yld.quo rfl rfl (by omega) (by omega) (by simp only [In]; omega)) ?_ | refine WL.gyes rfl rfl rfl rfl (Yld.rem rfl rfl (by omega) (by omega)) ?_ | refine WL.gyes rfl rfl rfl rfl (Yld.shl rfl rfl (by omega)) ?_ | refine WL.gyes rfl rfl rfl rfl (Yld.shr rfl rfl (by omega)) ?_ | refine WL.gyes rfl rfl rfl rfl (Yld.pure tab_ok rfl) ?_ | refine WL.gyes rfl rfl rfl rfl (Yld.fld flds_ok rfl rfl rfl) ?_ | refine WL.gyes rfl rfl rfl rfl (Yld.max2 rfl rfl) ?_ | refine WL.gyes rfl rfl rfl rfl (Yld.min2 rfl rfl) ?_ | refine WL.gyes rfl rfl rfl rfl (Yld.pickV rfl rfl rfl) ?_)
  refine WC.cond rfl (fun h => ?_) (fun h => ?_)
  · simp only [decide_eq_true_eq] at h
    have hR2 := hO2.rd
    have hjt : ((xs.length : Int) - 1 - (i : Int)).toNat = xs.length - 1 - i := by omega
    repeat (first | refine WC.seq ?_ | refine WC.block ?_ | refine WC.region ?_ | refine WL.nil ?_ | refine WX.then_normal ?_ | refine WC.skip ?_ | refine WC.exit ?_ | refine WC.ret ?_ | refine WX.then_exit ?_ | refine WX.then_ret ?_ | refine WX.block_normal ?_ | refine WX.block_ret ?_ | refine WX.block_same ?_ | refine WX.block_other rfl ?_ | refine WC.label ?_ | refine WC.scope ?_ | refine WX.scope_normal ?_ | refine WX.scope_ret ?_ | refine WX.scope_exit ?_ | refine WL.y rfl (Yld.add rfl rfl (by simp only [In]; omega)) ?_ | refine WL.y rfl (Yld.sub rfl rfl (by simp only [In]; omega)) ?_ | refine WL.y rfl (Yld.mul rfl rfl (by simp only [In]; omega)) ?_ | refine WL.y rfl (Yld.convB tab_ok rfl rfl rfl rfl) ?_ | refine WL.y rfl (Yld.conv tab_ok rfl rfl rfl (by simp only [In]; omega)) ?_ | refine WL.y rfl (Yld.quo rfl rfl (by omega) (by omega) (by simp only [In]; omega)) ?_ | refine WL.y rfl (Yld.rem rfl rfl (by omega) (by omega)) ?_ | refine WL.y rfl (Yld.shl rfl rfl (by omega)) ?_ | refine WL.y rfl (Yld.shr rfl rfl (by omega)) ?_ | refine WL.y rfl (Yld.pure tab_ok rfl) ?_ | refine WL.y rfl (Yld.fld flds_ok rfl rfl rfl) ?_ | refine WL.y rfl (Yld.max2 rfl rfl) ?_ | refine WL.y rfl (Yld.min2 rfl rfl) ?_ | refine WL.y rfl (Yld.pickV rfl rfl rfl) ?_ | refine WL.gno rfl rfl rfl rfl ?_ | refine WL.gyes rfl rfl rfl rfl (Yld.add rfl rfl (by simp only [In]; omega)) ?_ | refine WL.gyes rfl rfl rfl rfl (Yld.sub rfl rfl (by simp only [In]; omega)) ?_ | refine WL.gyes rfl rfl rfl rfl (Yld.mul rfl rfl (by simp only [In]; omega)) ?_ | refine WL.gyes rfl rfl rfl rfl (Yld.convB tab_ok rfl rfl rfl rfl) ?_ | refine WL.gyes rfl rfl rfl rfl (Yld.conv tab_ok rfl rfl rfl (by simp only [In]; omega)) ?_ | refine WL.gyes rfl rfl rfl rfl (Yld.quo rfl rfl (by omega) (by omega) (by simp only [In]; omega)) ?_ | refine WL.gyes rfl rfl rfl rfl (Yld.rem rfl rfl (by omega) (by omega)) ?_ | refine WL.gyes rfl rfl rfl rfl (Yld.shl rfl rfl (by omega)) ?_ | refine WL.gyes rfl rfl rfl rfl (Yld.shr rfl rfl (by omega)) ?_ | refine WL.gyes rfl rfl rfl rfl (Yld.pure tab_ok rfl) ?_ | refine WL.gyes rfl rfl rfl rfl (Yld.fld flds_ok rfl rfl rfl) ?_ | refine WL.gyes rfl rfl rfl rfl (Yld.max2 rfl rfl) ?_ | refine WL.gyes rfl rfl rfl rfl (Yld.min2 rfl rfl) ?_ | refine WL.gyes rfl rfl rfl rfl (Yld.pickV rfl rfl rfl) ?_)
    refine WC.chainJ (fun k => !(Nat.beq k 13 || Nat.beq k 15)) (LD [7, 11] (fun w' => Rd vb w' A c ys)) mixed (by kernel_rfl) (fun k w' e _ => rd_eqv e hR2) ?_
    have hyl3 : xs.length = (ys.set i (ys.getD (xs.length - 1 - i) 0)).length := by simp [hyl]
    repeat (first | refine WJ.y rfl rfl (fun _ _ => Yld.iaddrNW tab_ok hR2 rfl rfl hyl.symm rfl (by omega)) ?_ | refine WJ.y rfl rfl (fun _ _ => Yld.iaddrW tab_ok hR2 rfl rfl hyl.symm rfl (by omega) (by omega)) ?_ | refine WJ.y rfl rfl (fun w' h => Yld.iload 0 tab_ok (h rfl) rfl rfl (by omega)) ?_ | refine WJ.y rfl rfl (fun _ _ => Yld.add rfl rfl (by simp only [In]; omega)) ?_ | refine WJ.y rfl rfl (fun _ _ => Yld.sub rfl rfl (by simp only [In]; omega)) ?_ | refine WJ.y rfl rfl (fun _ _ => Yld.mul rfl rfl (by simp only [In]; omega)) ?_ | refine WJ.y rfl rfl (fun _ _ => Yld.convB tab_ok rfl rfl rfl rfl) ?_ | refine WJ.y rfl rfl (fun _ _ => Yld.conv tab_ok rfl rfl rfl (by simp only [In]; omega)) ?_ | refine WJ.y rfl rfl (fun _ _ => Yld.quo rfl rfl (by omega) (by omega) (by simp only [In]; omega)) ?_ | refine WJ.y rfl rfl (fun _ _ => Yld.rem rfl rfl (by omega) (by omega)) ?_ | refine WJ.y rfl rfl (fun _ _ => Yld.shl rfl rfl (by omega)) ?_ | refine WJ.y rfl rfl (fun _ _ => Yld.shr rfl rfl (by omega)) ?_ | refine WJ.y rfl rfl (fun _ _ => Yld.pure tab_ok rfl) ?_ | refine WJ.y rfl rfl (fun _ _ => Yld.fld flds_ok rfl rfl rfl) ?_ | refine WJ.y rfl rfl (fun _ _ => Yld.max2 rfl rfl) ?_ | refine WJ.y rfl rfl (fun _ _ => Yld.min2 rfl rfl) ?_ | refine WJ.y rfl rfl (fun _ _ => Yld.pickV rfl rfl rfl) ?_ | refine WJ.no rfl rfl rfl rfl ?_ | refine WJ.gun rfl rfl rfl rfl ?_ | refine WJ.yw rfl (wants_some rfl rfl rfl) rfl (fun _ _ => Yld.add rfl rfl (by simp only [In]; omega)) ?_ | refine WJ.yw rfl (wants_some rfl rfl rfl) rfl (fun _ _ => Yld.sub rfl rfl (by simp only [In]; omega)) ?_ | refine WJ.yw rfl (wants_some rfl rfl rfl) rfl (fun _ _ => Yld.mul rfl rfl (by simp only [In]; omega)) ?_ | refine WJ.yw rfl (wants_some rfl rfl rfl) rfl (fun _ _ => Yld.convB tab_ok rfl rfl rfl rfl) ?_ | refine WJ.yw rfl (wants_some rfl rfl rfl) rfl (fun _ _ => Yld.conv tab_ok rfl rfl rfl (by simp only [In]; omega)) ?_ | refine WJ.yw rfl (wants_some rfl rfl rfl) rfl (fun _ _ => Yld.quo rfl rfl (by omega) (by omega) (by simp only [In]; omega)) ?_ | refine WJ.yw rfl (wants_some rfl rfl rfl) rfl (fun _ _ => Yld.rem rfl rfl (by omega) (by omega)) ?_ | refine WJ.yw rfl (wants_some rfl rfl rfl) rfl (fun _ _ => Yld.shl rfl rfl (by omega)) ?_ | refine WJ.yw rfl (wants_some rfl rfl rfl) rfl (fun _ _ => Yld.shr rfl rfl (by omega)) ?_ | refine WJ.yw rfl (wants_some rfl rfl rfl) rfl (fun _ _ => Yld.pure tab_ok rfl) ?_)
    rw [hjt]
    refine WJ.eff rfl (Ef0.ostore (v := ys.getD (xs.length - 1 - i) 0) one5 One.b hO2 rfl rfl (by omega)) (fun w' _ => DD.past (by kernel_rfl)) ?_
    rintro w3 ⟨hO3, hg3⟩
    repeat (first | refine WJ.y rfl rfl (fun _ _ => Yld.iaddrNW tab_ok hR2 rfl rfl hyl.symm rfl (by omega)) ?_ | refine WJ.y rfl rfl (fun _ _ => Yld.iaddrW tab_ok hR2 rfl rfl hyl.symm rfl (by omega) (by omega)) ?_ | refine WJ.y rfl rfl (fun _ _ => Yld.add rfl rfl (by simp only [In]; omega)) ?_ | refine WJ.y rfl rfl (fun _ _ => Yld.sub rfl rfl (by simp only [In]; omega)) ?_ | refine WJ.y rfl rfl (fun _ _ => Yld.mul rfl rfl (by simp only [In]; omega)) ?_ | refine WJ.y rfl rfl (fun _ _ => Yld.convB tab_ok rfl rfl rfl rfl) ?_ | refine WJ.y rfl rfl (fun _ _ => Yld.conv tab_ok rfl rfl rfl (by simp only [In]; omega)) ?_ | refine WJ.y rfl rfl (fun _ _ => Yld.quo rfl rfl (by omega) (by omega) (by simp only [In]; omega)) ?_ | refine WJ.y rfl rfl (fun _ _ => Yld.rem rfl rfl (by omega) (by omega)) ?_ | refine WJ.y rfl rfl (fun _ _ => Yld.shl rfl rfl (by omega)) ?_ | refine WJ.y rfl rfl (fun _ _ => Yld.shr rfl rfl (by omega)) ?_ | refine WJ.y rfl rfl (fun _ _ => Yld.pure tab_ok rfl) ?_ | refine WJ.y rfl rfl (fun _ _ => Yld.fld flds_ok rfl rfl rfl) ?_ | refine WJ.y rfl rfl (fun _ _ => Yld.max2 rfl rfl) ?_ | refine WJ.y rfl rfl (fun _ _ => Yld.min2 rfl rfl) ?_ | refine WJ.y rfl rfl (fun _ _ => Yld.pickV rfl rfl rfl) ?_ | refine WJ.no rfl rfl rfl rfl ?_ | refine WJ.gun rfl rfl rfl rfl ?_ | refine WJ.yw rfl (wants_some rfl rfl rfl) rfl (fun _ _ => Yld.add rfl rfl (by simp only [In]; omega)) ?_ | refine WJ.yw rfl (wants_some rfl rfl rfl) rfl (fun _ _ => Yld.sub rfl rfl (by simp only [In]; omega)) ?_ | refine WJ.yw rfl (wants_some rfl rfl rfl) rfl (fun _ _ => Yld.mul rfl rfl (by simp only [In]; omega)) ?_ | refine WJ.yw rfl (wants_some rfl rfl rfl) rfl (fun _ _ => Yld.convB tab_ok rfl rfl rfl rfl) ?_ | refine WJ.yw rfl (wants_some rfl rfl rfl) rfl (fun _ _ => Yld.conv tab_ok rfl rfl rfl (by simp only [In]; omega)) ?_ | refine WJ.yw rfl (wants_some rfl rfl rfl) rfl (fun _ _ => Yld.quo rfl rfl (by omega) (by omega) (by simp only [In]; omega)) ?_ | refine WJ.yw rfl (wants_some rfl rfl rfl) rfl (fun _ _ => Yld.rem rfl rfl (by omega) (by omega)) ?_ | refine WJ.yw rfl (wants_some rfl rfl rfl) rfl (fun _ _ => Yld.shl rfl rfl (by omega)) ?_ | refine WJ.yw rfl (wants_some rfl rfl rfl) rfl (fun _ _ => Yld.shr rfl rfl (by omega)) ?_ | refine WJ.yw rfl (wants_some rfl rfl rfl) rfl (fun _ _ => Yld.pure tab_ok rfl) ?_)
    rw [hjt]
    refine WJ.eff rfl (Ef0.ostore (v := ys.getD i 0) one5 One.b hO3 rfl rfl (by simp; omega)) (fun w' _ => DD.past (by kernel_rfl)) ?_
    rintro w4 ⟨hO4, hg4⟩
    refine WJ.nil ?_
    repeat (first | refine WC.seq ?_ | refine WC.block ?_ | refine WC.region ?_ | refine WL.nil ?_ | refine WX.then_normal ?_ | refine WC.skip ?_ | refine WC.exit ?_ | refine WC.ret ?_ | refine WX.then_exit ?_ | refine WX.then_ret ?_ | refine WX.block_normal ?_ | refine WX.block_ret ?_ | refine WX.block_same ?_ | refine WX.block_other rfl ?_ | refine WC.label ?_ | refine WC.scope ?_ | refine WX.scope_normal ?_ | refine WX.scope_ret ?_ | refine WX.scope_exit ?_ | refine WL.y rfl (Yld.add rfl rfl (by simp only [In]; omega)) ?_ | refine WL.y rfl (Yld.sub rfl rfl (by simp only [In]; omega)) ?_ | refine WL.y rfl (Yld.mul rfl rfl (by simp only [In]; omega)) ?_ | refine WL.y rfl (Yld.convB tab_ok rfl rfl rfl rfl) ?_ | refine WL.y rfl (Yld.conv tab_ok rfl rfl rfl (by simp only [In]; omega)) ?_ | refine WL.y rfl (Yld.quo rfl rfl (by omega) (by omega) (by simp only [In]; omega)) ?_ | refine WL.y rfl (Yld.rem rfl rfl (by omega) (by omega)) ?_ | refine WL.y rfl (Yld.shl rfl rfl (by omega)) ?_ | refine WL.y rfl (Yld.shr rfl rfl (by omega)) ?_ | refine WL.y rfl (Yld.pure tab_ok rfl) ?_ | refine WL.y rfl (Yld.fld flds_ok rfl rfl rfl) ?_ | refine WL.y rfl (Yld.max2 rfl rfl) ?_ | refine WL.y rfl (Yld.min2 rfl rfl) ?_ | refine WL.y rfl (Yld.pickV rfl rfl rfl) ?_ | refine WL.gno rfl rfl rfl rfl ?_ | refine WL.gyes rfl rfl rfl rfl (Yld.add rfl rfl (by simp only [In]; omega)) ?_ | refine WL.gyes rfl rfl rfl rfl (Yld.sub rfl rfl (by simp only [In]; omega)) ?_ | refine WL.gyes rfl rfl rfl rfl (Yld.mul rfl rfl (by simp only [In]; omega)) ?_ | refine WL.gyes rfl rfl rfl rfl (Yld.convB tab_ok rfl rfl rfl rfl) ?_ | refine WL.gyes rfl rfl rfl rfl (Yld.conv tab_ok rfl rfl rfl (by simp only [In]; omega)) ?_ | refine WL.gyes rfl rfl rfl rfl (Yld.quo rfl rfl (by omega) (by omega) (by simp only [In]; omega)) ?_ | refine WL.gyes rfl rfl rfl rfl (Yld.rem rfl rfl (by omega) (by omega)) ?_ | refine WL.gyes rfl rfl rfl rfl (Yld.shl rfl rfl (by omega)) ?_ | refine WL.gyes rfl rfl rfl rfl (Yld.shr rfl rfl (by omega)) ?_ | refine WL.gyes rfl rfl rfl rfl (Yld.pure tab_ok rfl) ?_ | refine WL.gyes rfl rfl rfl rfl (Yld.fld flds_ok rfl rfl rfl) ?_ | refine WL.gyes rfl rfl rfl rfl (Yld.max2 rfl rfl) ?_ | refine WL.gyes rfl rfl rfl rfl (Yld.min2 rfl rfl) ?_ | refine WL.gyes rfl rfl rfl rfl (Yld.pickV rfl rfl rfl) ?_)
    have e1 : (i : Int) + 1 = ((i + 1 : Nat) : Int) := by omega
    have e2 : (xs.length : Int) - 1 - (i : Int) - 1 = (xs.length : Int) - 1 - ((i + 1 : Nat) : Int) := by omega
    rw [e1, e2]
    refine WX.round2 (i + 1) ((ys.set i (ys.getD (xs.length - 1 - i) 0)).set (xs.length - 1 - i) (ys.getD i 0)) ⟨by simp [hyl], by omega, fun t ht => ?_, hO4, gr_row (gr_row hg2 hg3) hg4⟩ (by omega) (by repeat (first | exact Sub.nil | refine Sub.cons rfl ?_))
    have hy1 := hy i (by omega)
    have hy2 := hy (xs.length - 1 - i) (by omega)
    rw [if_neg (by omega)] at hy1 hy2
    rcases Classical.em (xs.length - 1 - i = t) with et | et
    · subst et
      rw [getD_set_eqB _ _ _ (by simp; omega), if_pos (by omega), hy1]
      congr 1; omega
    · rw [getD_set_neB _ _ _ _ et]
      rcases Classical.em (i = t) with et2 | et2
      · subst et2
        rw [getD_set_eqB _ _ _ (by omega), if_pos (by omega), hy2]
      · rw [getD_set_neB _ _ _ _ et2, hy t ht]
        by_cases hc : t < i ∨ xs.length - i ≤ t
        · rw [if_pos hc, if_pos (by omega)]
        · rw [if_neg hc, if_neg (by omega)]
  · simp only [decide_eq_false_iff_not] at h
    repeat (first | refine WC.seq ?_ | refine WC.block ?_ | refine WC.region ?_ | refine WL.nil ?_ | refine WX.then_normal ?_ | refine WC.skip ?_ | refine WC.exit ?_ | refine WC.ret ?_ | refine WX.then_exit ?_ | refine WX.then_ret ?_ | refine WX.block_normal ?_ | refine WX.block_ret ?_ | refine WX.block_same ?_ | refine WX.block_other rfl ?_ | refine WC.label ?_ | refine WC.scope ?_ | refine WX.scope_normal ?_ | refine WX.scope_ret ?_ | refine WX.scope_exit ?_ | refine WL.y rfl (Yld.add rfl rfl (by simp only [In]; omega)) ?_ | refine WL.y rfl (Yld.sub rfl rfl (by simp only [In]; omega)) ?_ | refine WL.y rfl (Yld.mul rfl rfl (by simp only [In]; omega)) ?_ | refine WL.y rfl (Yld.convB tab_ok rfl rfl rfl rfl) ?_ | refine WL.y rfl (Yld.conv tab_ok rfl rfl rfl (by simp only [In]; omega)) ?_ | refine WL.y rfl (Yld.quo rfl rfl (by omega) (by omega) (by simp only [In]; omega)) ?_ | refine WL.y rfl (Yld.rem rfl rfl (by omega) (by omega)) ?_ | refine WL.y rfl (Yld.shl rfl rfl (by omega)) ?_ | refine WL.y rfl (Yld.shr rfl rfl (by omega)) ?_ | refine WL.y rfl (Yld.pure tab_ok rfl) ?_ | refine WL.y rfl (Yld.fld flds_ok rfl rfl rfl) ?_ | refine WL.y rfl (Yld.max2 rfl rfl) ?_ | refine WL.y rfl (Yld.min2 rfl rfl) ?_ | refine WL.y rfl (Yld.pickV rfl rfl rfl) ?_ | refine WL.gno rfl rfl rfl rfl ?_ | refine WL.gyes rfl rfl rfl rfl (Yld.add rfl rfl (by simp only [In]; omega)) ?_ | refine WL.gyes rfl rfl rfl rfl (Yld.sub rfl rfl (by simp only [In]; omega)) ?_ | refine WL.gyes rfl rfl rfl rfl (Yld.mul rfl rfl (by simp only [In]; omega)) ?_ | refine WL.gyes rfl rfl rfl rfl (Yld.convB tab_ok rfl rfl rfl rfl) ?_ | refine WL.gyes rfl rfl rfl rfl (Yld.conv tab_ok rfl rfl rfl (by simp only [In]; omega)) ?_ | refine WL.gyes rfl rfl rfl rfl (Yld.quo rfl rfl (by omega) (by omega) (by simp only [In]; omega)) ?_ | refine WL.gyes rfl rfl rfl rfl (Yld.rem rfl rfl (by omega) (by omega)) ?_ | refine WL.gyes rfl rfl rfl rfl (Yld.shl rfl rfl (by omega)) ?_ | refine WL.gyes rfl rfl rfl rfl (Yld.shr rfl rfl (by omega)) ?_ | refine WL.gyes rfl rfl rfl rfl (Yld.pure tab_ok rfl) ?_ | refine WL.gyes rfl rfl rfl rfl (Yld.fld flds_ok rfl rfl rfl) ?_ | refine WL.gyes rfl rfl rfl rfl (Yld.max2 rfl rfl) ?_ | refine WL.gyes rfl rfl rfl rfl (Yld.min2 rfl rfl) ?_ | refine WL.gyes rfl rfl rfl rfl (Yld.pickV rfl rfl rfl) ?_)
    have e := rev_end xs ys i hyl (by omega) hy
    subst e
    exact WX.end0 rfl ⟨rfl, hO2, hg2⟩
end Go.Proofs.YtilphcippnfklaaDoor
 namespace Go.Proofs.YtilphcippnfklaaDoor
open Go Go.RowKit
attribute [local irreducible] WL WC WX WQ WK WJ Yld Eff Ef0 Fn
set_option maxHeartbeats 2000000 in
theorem text_fn (v : Value) (x : Int) (m : Nat) (w : World) (hN : Nm w v x m) (hm : m ≤ 90000) : Fn Tryd.prog 23 ⟨[v]⟩ w fun r w' => r = vs (txt x) ∧ w.grownBy w' none := by
  obtain ⟨neg, A, c, l, rfl, hR, hD, hC, hl, hn, hz⟩ := hN
  refine Fn.enter (by kernel_rfl) Tryd.func23 rfl Tryd.ntmps23 rfl ?_
  repeat (first | refine WC.seq ?_ | refine WC.block ?_ | refine WC.region ?_ | refine WL.nil ?_ | refine WX.then_normal ?_ | refine WC.skip ?_ | refine WC.exit ?_ | refine WC.ret ?_ | refine WX.then_exit ?_ | refine WX.then_ret ?_ | refine WX.block_normal ?_ | refine WX.block_ret ?_ | refine WX.block_same ?_ | refine WX.block_other rfl ?_ | refine WC.label ?_ | refine WC.scope ?_ | refine WX.scope_normal ?_ | refine WX.scope_ret ?_ | refine WX.scope_exit ?_ | refine WL.y rfl (Yld.add rfl rfl (by simp only [In]; omega)) ?_ | refine WL.y rfl (Yld.sub rfl rfl (by simp only [In]; omega)) ?_ | refine WL.y rfl (Yld.convB tab_ok rfl rfl rfl rfl) ?_ | refine WL.y rfl (Yld.conv tab_ok rfl rfl rfl (by simp only [In]; omega)) ?_ | refine WL.y rfl (Yld.quo rfl rfl (by omega) (by omega) (by simp only [In]; omega)) ?_ | refine WL.y rfl (Yld.rem rfl rfl (by omega) (by omega)) ?_ | refine WL.y rfl (Yld.pure tab_ok rfl) ?_ | refine WL.y rfl (Yld.pickV rfl rfl rfl) ?_ | refine WL.gno rfl rfl rfl rfl ?_ | refine WL.gyes rfl rfl rfl rfl (Yld.sub rfl rfl (by simp only [In]; omega)) ?_ | refine WL.gyes rfl rfl rfl rfl (Yld.pure tab_ok rfl) ?_ | refine WL.gyes rfl rfl rfl rfl (Yld.pickV rfl rfl rfl) ?_)
  refine WL.box (us := [.bool neg, .slice A l.length c]) rfl rfl rfl (fun g1 w1 hB1 hg1 hl1 => ?_)
  repeat (first | refine WL.y rfl (Yld.bload tab_ok hB1 rfl rfl rfl) ?_ | refine WC.seq ?_ | refine WC.block ?_ | refine WC.region ?_ | refine WL.nil ?_ | refine WX.then_normal ?_ | refine WC.skip ?_ | refine WC.exit ?_ | refine WC.ret ?_ | refine WX.then_exit ?_ | refine WX.then_ret ?_ | refine WX.block_normal ?_ | refine WX.block_ret ?_ | refine WX.block_same ?_ | refine WX.block_other rfl ?_ | refine WC.label ?_ | refine WC.scope ?_ | refine WX.scope_normal ?_ | refine WX.scope_ret ?_ | refine WX.scope_exit ?_ | refine WL.y rfl (Yld.add rfl rfl (by simp only [In]; omega)) ?_ | refine WL.y rfl (Yld.sub rfl rfl (by simp only [In]; omega)) ?_ | refine WL.y rfl (Yld.convB tab_ok rfl rfl rfl rfl) ?_ | refine WL.y rfl (Yld.conv tab_ok rfl rfl rfl (by simp only [In]; omega)) ?_ | refine WL.y rfl (Yld.quo rfl rfl (by omega) (by omega) (by simp only [In]; omega)) ?_ | refine WL.y rfl (Yld.rem rfl rfl (by omega) (by omega)) ?_ | refine WL.y rfl (Yld.pure tab_ok rfl) ?_ | refine WL.y rfl (Yld.pickV rfl rfl rfl) ?_ | refine WL.gno rfl rfl rfl rfl ?_ | refine WL.gyes rfl rfl rfl rfl (Yld.sub rfl rfl (by simp only [In]; omega)) ?_ | refine WL.gyes rfl rfl rfl rfl (Yld.pure tab_ok rfl) ?_ | refine WL.gyes rfl rfl rfl rfl (Yld.pickV rfl rfl rfl) ?_)
  refine WC.cond rfl (fun h => ?_) (fun h => ?_)
  · simp only [decide_eq_true_eq] at h
    have hl0 : l = [] := List.length_eq_zero_iff.mp (by omega)
    have hx0 : x = 0 := by subst hl0; cases neg <;> simpa [val] using hz
    repeat (first | refine WC.seq ?_ | refine WC.block ?_ | refine WC.region ?_ | refine WL.nil ?_ | refine WX.then_normal ?_ | refine WC.skip ?_ | refine WC.exit ?_ | refine WC.ret ?_ | refine WX.then_exit ?_ | refine WX.then_ret ?_ | refine WX.block_normal ?_ | refine WX.block_ret ?_ | refine WX.block_same ?_ | refine WX.block_other rfl ?_ | refine WC.label ?_ | refine WC.scope ?_ | refine WX.scope_normal ?_ | refine WX.scope_ret ?_ | refine WX.scope_exit ?_ | refine WL.y rfl (Yld.add rfl rfl (by simp only [In]; omega)) ?_ | refine WL.y rfl (Yld.sub rfl rfl (by simp only [In]; omega)) ?_ | refine WL.y rfl (Yld.convB tab_ok rfl rfl rfl rfl) ?_ | refine WL.y rfl (Yld.conv tab_ok rfl rfl rfl (by simp only [In]; omega)) ?_ | refine WL.y rfl (Yld.quo rfl rfl (by omega) (by omega) (by simp only [In]; omega)) ?_ | refine WL.y rfl (Yld.rem rfl rfl (by omega) (by omega)) ?_ | refine WL.y rfl (Yld.pure tab_ok rfl) ?_ | refine WL.y rfl (Yld.pickV rfl rfl rfl) ?_ | refine WL.gno rfl rfl rfl rfl ?_ | refine WL.gyes rfl rfl rfl rfl (Yld.sub rfl rfl (by simp only [In]; omega)) ?_ | refine WL.gyes rfl rfl rfl rfl (Yld.pure tab_ok rfl) ?_ | refine WL.gyes rfl rfl rfl rfl (Yld.pickV rfl rfl rfl) ?_)
    exact WX.ret1 rfl rfl ⟨by rw [hx0]; rfl, hg1⟩
  · simp only [decide_eq_false_iff_not] at h
    have hl0 : l ≠ [] := fun e => h (by rw [e]; rfl)
    have hpos := val_pos hC hl0
    have hx0 : x ≠ 0 := by cases neg <;> simp at hz <;> omega
    have hR1 := hR.grown hg1
    repeat (first | refine WL.y rfl (Yld.bload tab_ok hB1 rfl rfl rfl) ?_ | refine WC.seq ?_ | refine WC.block ?_ | refine WC.region ?_ | refine WL.nil ?_ | refine WX.then_normal ?_ | refine WC.skip ?_ | refine WC.exit ?_ | refine WC.ret ?_ | refine WX.then_exit ?_ | refine WX.then_ret ?_ | refine WX.block_normal ?_ | refine WX.block_ret ?_ | refine WX.block_same ?_ | refine WX.block_other rfl ?_ | refine WC.label ?_ | refine WC.scope ?_ | refine WX.scope_normal ?_ | refine WX.scope_ret ?_ | refine WX.scope_exit ?_ | refine WL.y rfl (Yld.add rfl rfl (by simp only [In]; omega)) ?_ | refine WL.y rfl (Yld.sub rfl rfl (by simp only [In]; omega)) ?_ | refine WL.y rfl (Yld.convB tab_ok rfl rfl rfl rfl) ?_ | refine WL.y rfl (Yld.conv tab_ok rfl rfl rfl (by simp only [In]; omega)) ?_ | refine WL.y rfl (Yld.quo rfl rfl (by omega) (by omega) (by simp only [In]; omega)) ?_ | refine WL.y rfl (Yld.rem rfl rfl (by omega) (by omega)) ?_ | refine WL.y rfl (Yld.pure tab_ok rfl) ?_ | refine WL.y rfl (Yld.pickV rfl rfl rfl) ?_ | refine WL.gno rfl rfl rfl rfl ?_ | refine WL.gyes rfl rfl rfl rfl (Yld.sub rfl rfl (by simp only [In]; omega)) ?_ | refine WL.gyes rfl rfl rfl rfl (Yld.pure tab_ok rfl) ?_ | refine WL.gyes rfl rfl rfl rfl (Yld.pickV rfl rfl rfl) ?_)
    refine WC.loop4 (S1 := Nat) (S2 := List UInt8) (S3 := Option Addr) (S4 := Nat) (fun i _ _ _ => l.length - i)
      (fun i b A' c' => [(14, vi i), (13, .int .i64 (l.length : Int)), (12, .slice A l.length c), (3, .slice A' b.length c'), (1, .pointer (some ⟨g1, 0, none⟩))])
      (fun i b A' c' w2 => i ≤ l.length ∧ b ++ dd (val (l.drop i)) = dd (val l) ∧ b.length ≤ 9 * i ∧ Own vb w2 w1.heap.size 5 A' c' b ∧ w1.grownBy w2 none) 0 [] none 0 ⟨by omega, rfl, by simp, Own.nil _ _ _ _, gr_refl _ _⟩ (by repeat (first | exact Sub.nil | refine Sub.cons rfl ?_)) (fun i b A' c' w2 ⟨hi, hb, hbl, hO, hg2⟩ => ?_)
    have hR2 := hR1.grown hg2
    repeat (first | refine WC.seq ?_ | refine WC.block ?_ | refine WC.region ?_ | refine WL.nil ?_ | refine WX.then_normal ?_ | refine WC.skip ?_ | refine WC.exit ?_ | refine WC.ret ?_ | refine WX.then_exit ?_ | refine WX.then_ret ?_ | refine WX.block_normal ?_ | refine WX.block_ret ?_ | refine WX.block_same ?_ | refine WX.block_other rfl ?_ | refine WC.label ?_ | refine WC.scope ?_ | refine WX.scope_normal ?_ | refine WX.scope_ret ?_ | refine WX.scope_exit ?_ | refine WL.y rfl (Yld.add rfl rfl (by simp only [In]; omega)) ?_ | refine WL.y rfl (Yld.sub rfl rfl (by simp only [In]; omega)) ?_ | refine WL.y rfl (Yld.convB tab_ok rfl rfl rfl rfl) ?_ | refine WL.y rfl (Yld.conv tab_ok rfl rfl rfl (by simp only [In]; omega)) ?_ | refine WL.y rfl (Yld.quo rfl rfl (by omega) (by omega) (by simp only [In]; omega)) ?_ | refine WL.y rfl (Yld.rem rfl rfl (by omega) (by omega)) ?_ | refine WL.y rfl (Yld.pure tab_ok rfl) ?_ | refine WL.y rfl (Yld.pickV rfl rfl rfl) ?_ | refine WL.gno rfl rfl rfl rfl ?_ | refine WL.gyes rfl rfl rfl rfl (Yld.sub rfl rfl (by simp only [In]; omega)) ?_ | refine WL.gyes rfl rfl rfl rfl (Yld.pure tab_ok rfl) ?_ | refine WL.gyes rfl rfl rfl rfl (Yld.pickV rfl rfl rfl) ?_)
    refine WC.cond rfl (fun h => ?_) (fun h => ?_)
    · simp only [decide_eq_true_eq] at h
      have hxi := hD i
      have hdc := drop_cons' l i (by omega)
      have hyy : i + 1 < l.length ↔ 0 < val (l.drop (i + 1)) := by
        have := drop_pos hC (i + 1)
        omega
      repeat (first | refine WL.y rfl (Yld.iaddrN tab_ok hR2 rfl rfl rfl rfl (by omega)) ?_ | refine WL.y rfl (Yld.iload 0 tab_ok hR2 rfl rfl (by omega)) ?_ | refine WC.seq ?_ | refine WC.block ?_ | refine WC.region ?_ | refine WL.nil ?_ | refine WX.then_normal ?_ | refine WC.skip ?_ | refine WC.exit ?_ | refine WC.ret ?_ | refine WX.then_exit ?_ | refine WX.then_ret ?_ | refine WX.block_normal ?_ | refine WX.block_ret ?_ | refine WX.block_same ?_ | refine WX.block_other rfl ?_ | refine WC.label ?_ | refine WC.scope ?_ | refine WX.scope_normal ?_ | refine WX.scope_ret ?_ | refine WX.scope_exit ?_ | refine WL.y rfl (Yld.add rfl rfl (by simp only [In]; omega)) ?_ | refine WL.y rfl (Yld.sub rfl rfl (by simp only [In]; omega)) ?_ | refine WL.y rfl (Yld.convB tab_ok rfl rfl rfl rfl) ?_ | refine WL.y rfl (Yld.conv tab_ok rfl rfl rfl (by simp only [In]; omega)) ?_ | refine WL.y rfl (Yld.quo rfl rfl (by omega) (by omega) (by simp only [In]; omega)) ?_ | refine WL.y rfl (Yld.rem rfl rfl (by omega) (by omega)) ?_ | refine WL.y rfl (Yld.pure tab_ok rfl) ?_ | refine WL.y rfl (Yld.pickV rfl rfl rfl) ?_ | refine WL.gno rfl rfl rfl rfl ?_ | refine WL.gyes rfl rfl rfl rfl (Yld.sub rfl rfl (by simp only [In]; omega)) ?_ | refine WL.gyes rfl rfl rfl rfl (Yld.pure tab_ok rfl) ?_ | refine WL.gyes rfl rfl rfl rfl (Yld.pickV rfl rfl rfl) ?_)
      generalize l.getD i 0 = d at *
      generalize hY : val (l.drop (i + 1)) = y at *
      refine WC.loop5 (S1 := Nat) (S2 := Nat) (S3 := List UInt8) (S4 := Option Addr) (S5 := Nat) (fun k _ _ _ _ => 9 - k)
        (fun k v b A' c' => [(6, vi k), (5, vd v), (4, vi i), (14, vi i), (13, .int .i64 (l.length : Int)), (12, .slice A l.length c), (3, .slice A' b.length c'), (1, .pointer (some ⟨g1, 0, none⟩))])
        (fun k v b A' c' w3 => k ≤ 9 ∧ v < 10 ^ (9 - k) ∧ b ++ rest k v y = dd (val l) ∧ b.length ≤ 9 * i + k ∧ Own vb w3 w1.heap.size 5 A' c' b ∧ w1.grownBy w3 none) 0 d b A' c' ⟨by omega, by omega, by rw [← rest_start d y hxi, ← hdc]; exact hb, by omega, hO, hg2⟩ (by repeat (first | exact Sub.nil | refine Sub.cons rfl ?_)) (fun k v b A' c' w3 ⟨hk, hv, hb3, hbl3, hO3, hg3⟩ => ?_)
      have hB3 := hB1.keep hg3 (by simp)
      refine WC.seq ?_
      refine WC.seqW [(32, .bool (decide (k < 9 ∧ (0 < v ∨ 0 < y)))), (6, vi k), (5, vd v), (4, vi i), (14, vi i), (13, .int .i64 (l.length : Int)), (12, .slice A l.length c), (3, .slice A' b.length c'), (1, .pointer (some ⟨g1, 0, none⟩))] (fun Q' hQ => ?_) ?_
      · repeat (first | refine WC.seq ?_ | refine WC.block ?_ | refine WC.region ?_ | refine WL.nil ?_ | refine WX.then_normal ?_ | refine WC.skip ?_ | refine WC.exit ?_ | refine WC.ret ?_ | refine WX.then_exit ?_ | refine WX.then_ret ?_ | refine WX.block_normal ?_ | refine WX.block_ret ?_ | refine WX.block_same ?_ | refine WX.block_other rfl ?_ | refine WC.label ?_ | refine WC.scope ?_ | refine WX.scope_normal ?_ | refine WX.scope_ret ?_ | refine WX.scope_exit ?_ | refine WL.y rfl (Yld.add rfl rfl (by simp only [In]; omega)) ?_ | refine WL.y rfl (Yld.sub rfl rfl (by simp only [In]; omega)) ?_ | refine WL.y rfl (Yld.convB tab_ok rfl rfl rfl rfl) ?_ | refine WL.y rfl (Yld.conv tab_ok rfl rfl rfl (by simp only [In]; omega)) ?_ | refine WL.y rfl (Yld.quo rfl rfl (by omega) (by omega) (by simp only [In]; omega)) ?_ | refine WL.y rfl (Yld.rem rfl rfl (by omega) (by omega)) ?_ | refine WL.y rfl (Yld.pure tab_ok rfl) ?_ | refine WL.y rfl (Yld.pickV rfl rfl rfl) ?_ | refine WL.gno rfl rfl rfl rfl ?_ | refine WL.gyes rfl rfl rfl rfl (Yld.sub rfl rfl (by simp only [In]; omega)) ?_ | refine WL.gyes rfl rfl rfl rfl (Yld.pure tab_ok rfl) ?_ | refine WL.gyes rfl rfl rfl rfl (Yld.pickV rfl rfl rfl) ?_)
        rcases Nat.lt_or_ge k 9 with h9 | h9
        · have e9 : decide ((k : Int) < 9) = true := by simp; omega
          rw [e9]
          repeat (first | refine WL.gyes rfl rfl rfl rfl (Yld.bload tab_ok hB3 rfl rfl rfl) ?_ | refine WC.seq ?_ | refine WC.block ?_ | refine WC.region ?_ | refine WL.nil ?_ | refine WX.then_normal ?_ | refine WC.skip ?_ | refine WC.exit ?_ | refine WC.ret ?_ | refine WX.then_exit ?_ | refine WX.then_ret ?_ | refine WX.block_normal ?_ | refine WX.block_ret ?_ | refine WX.block_same ?_ | refine WX.block_other rfl ?_ | refine WC.label ?_ | refine WC.scope ?_ | refine WX.scope_normal ?_ | refine WX.scope_ret ?_ | refine WX.scope_exit ?_ | refine WL.y rfl (Yld.add rfl rfl (by simp only [In]; omega)) ?_ | refine WL.y rfl (Yld.sub rfl rfl (by simp only [In]; omega)) ?_ | refine WL.y rfl (Yld.convB tab_ok rfl rfl rfl rfl) ?_ | refine WL.y rfl (Yld.conv tab_ok rfl rfl rfl (by simp only [In]; omega)) ?_ | refine WL.y rfl (Yld.quo rfl rfl (by omega) (by omega) (by simp only [In]; omega)) ?_ | refine WL.y rfl (Yld.rem rfl rfl (by omega) (by omega)) ?_ | refine WL.y rfl (Yld.pure tab_ok rfl) ?_ | refine WL.y rfl (Yld.pickV rfl rfl rfl) ?_ | refine WL.gno rfl rfl rfl rfl ?_ | refine WL.gyes rfl rfl rfl rfl (Yld.sub rfl rfl (by simp only [In]; omega)) ?_ | refine WL.gyes rfl rfl rfl rfl (Yld.pure tab_ok rfl) ?_ | refine WL.gyes rfl rfl rfl rfl (Yld.pickV rfl rfl rfl) ?_)
          rcases Nat.lt_or_ge (i + 1) l.length with h8 | h8
          · have e8 : decide ((i : Int) < (l.length : Int) - 1) = true := by simp; omega
            have ee : decide (k < 9 ∧ (0 < v ∨ 0 < y)) = true := decide_eq_true ⟨h9, .inr (hyy.mp h8)⟩
            rw [e8]
            rw [ee] at hQ
            repeat (first | refine WC.seq ?_ | refine WC.block ?_ | refine WC.region ?_ | refine WL.nil ?_ | refine WX.then_normal ?_ | refine WC.skip ?_ | refine WC.exit ?_ | refine WC.ret ?_ | refine WX.then_exit ?_ | refine WX.then_ret ?_ | refine WX.block_normal ?_ | refine WX.block_ret ?_ | refine WX.block_same ?_ | refine WX.block_other rfl ?_ | refine WC.label ?_ | refine WC.scope ?_ | refine WX.scope_normal ?_ | refine WX.scope_ret ?_ | refine WX.scope_exit ?_ | refine WL.y rfl (Yld.add rfl rfl (by simp only [In]; omega)) ?_ | refine WL.y rfl (Yld.sub rfl rfl (by simp only [In]; omega)) ?_ | refine WL.y rfl (Yld.convB tab_ok rfl rfl rfl rfl) ?_ | refine WL.y rfl (Yld.conv tab_ok rfl rfl rfl (by simp only [In]; omega)) ?_ | refine WL.y rfl (Yld.quo rfl rfl (by omega) (by omega) (by simp only [In]; omega)) ?_ | refine WL.y rfl (Yld.rem rfl rfl (by omega) (by omega)) ?_ | refine WL.y rfl (Yld.pure tab_ok rfl) ?_ | refine WL.y rfl (Yld.pickV rfl rfl rfl) ?_ | refine WL.gno rfl rfl rfl rfl ?_ | refine WL.gyes rfl rfl rfl rfl (Yld.sub rfl rfl (by simp only [In]; omega)) ?_ | refine WL.gyes rfl rfl rfl rfl (Yld.pure tab_ok rfl) ?_ | refine WL.gyes rfl rfl rfl rfl (Yld.pickV rfl rfl rfl) ?_ | refine WL.gun rfl rfl rfl rfl ?_)
            exact WX.weaken (by repeat (first | exact Sub.nil | refine Sub.cons rfl ?_)) hQ
          · have e8 : decide ((i : Int) < (l.length : Int) - 1) = false := by simp; omega
            have hy0 : ¬ 0 < y := fun e => by have := hyy.mpr e; omega
            have ee : decide (k < 9 ∧ (0 < v ∨ 0 < y)) = decide ((0 : Int) < (v : Int)) := by
              rw [decide_eq_decide]; omega
            rw [e8]
            rw [ee] at hQ
            repeat (first | refine WC.seq ?_ | refine WC.block ?_ | refine WC.region ?_ | refine WL.nil ?_ | refine WX.then_normal ?_ | refine WC.skip ?_ | refine WC.exit ?_ | refine WC.ret ?_ | refine WX.then_exit ?_ | refine WX.then_ret ?_ | refine WX.block_normal ?_ | refine WX.block_ret ?_ | refine WX.block_same ?_ | refine WX.block_other rfl ?_ | refine WC.label ?_ | refine WC.scope ?_ | refine WX.scope_normal ?_ | refine WX.scope_ret ?_ | refine WX.scope_exit ?_ | refine WL.y rfl (Yld.add rfl rfl (by simp only [In]; omega)) ?_ | refine WL.y rfl (Yld.sub rfl rfl (by simp only [In]; omega)) ?_ | refine WL.y rfl (Yld.convB tab_ok rfl rfl rfl rfl) ?_ | refine WL.y rfl (Yld.conv tab_ok rfl rfl rfl (by simp only [In]; omega)) ?_ | refine WL.y rfl (Yld.quo rfl rfl (by omega) (by omega) (by simp only [In]; omega)) ?_ | refine WL.y rfl (Yld.rem rfl rfl (by omega) (by omega)) ?_ | refine WL.y rfl (Yld.pure tab_ok rfl) ?_ | refine WL.y rfl (Yld.pickV rfl rfl rfl) ?_ | refine WL.gno rfl rfl rfl rfl ?_ | refine WL.gyes rfl rfl rfl rfl (Yld.sub rfl rfl (by simp only [In]; omega)) ?_ | refine WL.gyes rfl rfl rfl rfl (Yld.pure tab_ok rfl) ?_ | refine WL.gyes rfl rfl rfl rfl (Yld.pickV rfl rfl rfl) ?_ | refine WL.gun rfl rfl rfl rfl ?_)
            exact WX.weaken (by repeat (first | exact Sub.nil | refine Sub.cons rfl ?_)) hQ
        · have e9 : decide ((k : Int) < 9) = false := by simp; omega
          have ee : decide (k < 9 ∧ (0 < v ∨ 0 < y)) = false := decide_eq_false (by omega)
          rw [e9]
          rw [ee] at hQ
          repeat (first | refine WC.seq ?_ | refine WC.block ?_ | refine WC.region ?_ | refine WL.nil ?_ | refine WX.then_normal ?_ | refine WC.skip ?_ | refine WC.exit ?_ | refine WC.ret ?_ | refine WX.then_exit ?_ | refine WX.then_ret ?_ | refine WX.block_normal ?_ | refine WX.block_ret ?_ | refine WX.block_same ?_ | refine WX.block_other rfl ?_ | refine WC.label ?_ | refine WC.scope ?_ | refine WX.scope_normal ?_ | refine WX.scope_ret ?_ | refine WX.scope_exit ?_ | refine WL.y rfl (Yld.add rfl rfl (by simp only [In]; omega)) ?_ | refine WL.y rfl (Yld.sub rfl rfl (by simp only [In]; omega)) ?_ | refine WL.y rfl (Yld.convB tab_ok rfl rfl rfl rfl) ?_ | refine WL.y rfl (Yld.conv tab_ok rfl rfl rfl (by simp only [In]; omega)) ?_ | refine WL.y rfl (Yld.quo rfl rfl (by omega) (by omega) (by simp only [In]; omega)) ?_ | refine WL.y rfl (Yld.rem rfl rfl (by omega) (by omega)) ?_ | refine WL.y rfl (Yld.pure tab_ok rfl) ?_ | refine WL.y rfl (Yld.pickV rfl rfl rfl) ?_ | refine WL.gno rfl rfl rfl rfl ?_ | refine WL.gyes rfl rfl rfl rfl (Yld.sub rfl rfl (by simp only [In]; omega)) ?_ | refine WL.gyes rfl rfl rfl rfl (Yld.pure tab_ok rfl) ?_ | refine WL.gyes rfl rfl rfl rfl (Yld.pickV rfl rfl rfl) ?_ | refine WL.gun rfl rfl rfl rfl ?_)
          exact WX.weaken (by repeat (first | exact Sub.nil | refine Sub.cons rfl ?_)) hQ
      · repeat (first | refine WC.seq ?_ | refine WC.block ?_ | refine WC.region ?_ | refine WL.nil ?_ | refine WX.then_normal ?_ | refine WC.skip ?_ | refine WC.exit ?_ | refine WC.ret ?_ | refine WX.then_exit ?_ | refine WX.then_ret ?_ | refine WX.block_normal ?_ | refine WX.block_ret ?_ | refine WX.block_same ?_ | refine WX.block_other rfl ?_ | refine WC.label ?_ | refine WC.scope ?_ | refine WX.scope_normal ?_ | refine WX.scope_ret ?_ | refine WX.scope_exit ?_ | refine WL.y rfl (Yld.add rfl rfl (by simp only [In]; omega)) ?_ | refine WL.y rfl (Yld.sub rfl rfl (by simp only [In]; omega)) ?_ | refine WL.y rfl (Yld.convB tab_ok rfl rfl rfl rfl) ?_ | refine WL.y rfl (Yld.conv tab_ok rfl rfl rfl (by simp only [In]; omega)) ?_ | refine WL.y rfl (Yld.quo rfl rfl (by omega) (by omega) (by simp only [In]; omega)) ?_ | refine WL.y rfl (Yld.rem rfl rfl (by omega) (by omega)) ?_ | refine WL.y rfl (Yld.pure tab_ok rfl) ?_ | refine WL.y rfl (Yld.pickV rfl rfl rfl) ?_ | refine WL.gno rfl rfl rfl rfl ?_ | refine WL.gyes rfl rfl rfl rfl (Yld.sub rfl rfl (by simp only [In]; omega)) ?_ | refine WL.gyes rfl rfl rfl rfl (Yld.pure tab_ok rfl) ?_ | refine WL.gyes rfl rfl rfl rfl (Yld.pickV rfl rfl rfl) ?_)
        refine WC.cond rfl (fun h' => ?_) (fun h' => ?_)
        · have h' := of_decide_eq_true h'
          have hst := rest_step k v y h'.1 h'.2
          have hv32 : v < 10 ^ 9 := Nat.lt_of_lt_of_le hv (Nat.pow_le_pow_right (by omega) (by omega))
          repeat (first | refine WC.seq ?_ | refine WC.block ?_ | refine WC.region ?_ | refine WL.nil ?_ | refine WX.then_normal ?_ | refine WC.skip ?_ | refine WC.exit ?_ | refine WC.ret ?_ | refine WX.then_exit ?_ | refine WX.then_ret ?_ | refine WX.block_normal ?_ | refine WX.block_ret ?_ | refine WX.block_same ?_ | refine WX.block_other rfl ?_ | refine WC.label ?_ | refine WC.scope ?_ | refine WX.scope_normal ?_ | refine WX.scope_ret ?_ | refine WX.scope_exit ?_ | refine WL.y rfl (Yld.add rfl rfl (by simp only [In]; omega)) ?_ | refine WL.y rfl (Yld.sub rfl rfl (by simp only [In]; omega)) ?_ | refine WL.y rfl (Yld.convB tab_ok rfl rfl rfl rfl) ?_ | refine WL.y rfl (Yld.conv tab_ok rfl rfl rfl (by simp only [In]; omega)) ?_ | refine WL.y rfl (Yld.quo rfl rfl (by omega) (by omega) (by simp only [In]; omega)) ?_ | refine WL.y rfl (Yld.rem rfl rfl (by omega) (by omega)) ?_ | refine WL.y rfl (Yld.pure tab_ok rfl) ?_ | refine WL.y rfl (Yld.pickV rfl rfl rfl) ?_ | refine WL.gno rfl rfl rfl rfl ?_ | refine WL.gyes rfl rfl rfl rfl (Yld.sub rfl rfl (by simp only [In]; omega)) ?_ | refine WL.gyes rfl rfl rfl rfl (Yld.pure tab_ok rfl) ?_ | refine WL.gyes rfl rfl rfl rfl (Yld.pickV rfl rfl rfl) ?_)
          have hd : (48 : Int) + (v : Int) % 10 = ((dc v).toNat : Int) := by rw [dc_toNat]; omega
          have hq : (v : Int) / 10 = ((v / 10 : Nat) : Int) := by omega
          rw [hd]
          refine WL.lit (us := [vb (dc v)]) tab_ok rfl rfl rfl (by intro u hu; rw [List.mem_singleton] at hu; rw [hu]; rfl) rfl (by omega) (fun g4 w4 hL4 hg4 hl4 => ?_)
          have hR4 : Rd vb w4 (some ⟨g4, 0, none⟩) 1 [dc v] := Rd.ofBl' hL4 (by simp) (by simp [maxLen])
          have hO4 := hO3.grown hg4
          have hz3 := hg3.size
          have hz4 := hg4.size
          refine WL.append tab_ok rfl rfl One.b hO4 rfl rfl hR4 rfl rfl (by simp only [List.length_cons, List.length_nil]; omega) (by simp only [maxLen, List.length_cons, List.length_nil]; omega) (by omega) (fun A5 c5 w5 hO5 hg5 hf5 => ?_)
          repeat (first | refine WC.seq ?_ | refine WC.block ?_ | refine WC.region ?_ | refine WL.nil ?_ | refine WX.then_normal ?_ | refine WC.skip ?_ | refine WC.exit ?_ | refine WC.ret ?_ | refine WX.then_exit ?_ | refine WX.then_ret ?_ | refine WX.block_normal ?_ | refine WX.block_ret ?_ | refine WX.block_same ?_ | refine WX.block_other rfl ?_ | refine WC.label ?_ | refine WC.scope ?_ | refine WX.scope_normal ?_ | refine WX.scope_ret ?_ | refine WX.scope_exit ?_ | refine WL.y rfl (Yld.add rfl rfl (by simp only [In]; omega)) ?_ | refine WL.y rfl (Yld.sub rfl rfl (by simp only [In]; omega)) ?_ | refine WL.y rfl (Yld.convB tab_ok rfl rfl rfl rfl) ?_ | refine WL.y rfl (Yld.conv tab_ok rfl rfl rfl (by simp only [In]; omega)) ?_ | refine WL.y rfl (Yld.quo rfl rfl (by omega) (by omega) (by simp only [In]; omega)) ?_ | refine WL.y rfl (Yld.rem rfl rfl (by omega) (by omega)) ?_ | refine WL.y rfl (Yld.pure tab_ok rfl) ?_ | refine WL.y rfl (Yld.pickV rfl rfl rfl) ?_ | refine WL.gno rfl rfl rfl rfl ?_ | refine WL.gyes rfl rfl rfl rfl (Yld.sub rfl rfl (by simp only [In]; omega)) ?_ | refine WL.gyes rfl rfl rfl rfl (Yld.pure tab_ok rfl) ?_ | refine WL.gyes rfl rfl rfl rfl (Yld.pickV rfl rfl rfl) ?_)
          rw [hq]
          refine WX.round5 (k + 1) (v / 10) (b ++ [dc v]) A5 c5 ⟨by omega, ?_, ?_, by simp; omega, hO5, gr_own (gr_trans hg3 hg4) hO4 hg5 (Nat.le_refl _)⟩ (by omega) (by repeat (first | exact Sub.nil | refine Sub.cons rfl ?_))
          · rw [show 9 - k = (9 - (k + 1)) + 1 by omega, Nat.pow_succ] at hv
            omega
          · rw [List.append_assoc, ← hb3, hst]; rfl
        · have h' := of_decide_eq_false h'
          have hen := rest_end k v y hk hv h'
          repeat (first | refine WC.seq ?_ | refine WC.block ?_ | refine WC.region ?_ | refine WL.nil ?_ | refine WX.then_normal ?_ | refine WC.skip ?_ | refine WC.exit ?_ | refine WC.ret ?_ | refine WX.then_exit ?_ | refine WX.then_ret ?_ | refine WX.block_normal ?_ | refine WX.block_ret ?_ | refine WX.block_same ?_ | refine WX.block_other rfl ?_ | refine WC.label ?_ | refine WC.scope ?_ | refine WX.scope_normal ?_ | refine WX.scope_ret ?_ | refine WX.scope_exit ?_ | refine WL.y rfl (Yld.add rfl rfl (by simp only [In]; omega)) ?_ | refine WL.y rfl (Yld.sub rfl rfl (by simp only [In]; omega)) ?_ | refine WL.y rfl (Yld.convB tab_ok rfl rfl rfl rfl) ?_ | refine WL.y rfl (Yld.conv tab_ok rfl rfl rfl (by simp only [In]; omega)) ?_ | refine WL.y rfl (Yld.quo rfl rfl (by omega) (by omega) (by simp only [In]; omega)) ?_ | refine WL.y rfl (Yld.rem rfl rfl (by omega) (by omega)) ?_ | refine WL.y rfl (Yld.pure tab_ok rfl) ?_ | refine WL.y rfl (Yld.pickV rfl rfl rfl) ?_ | refine WL.gno rfl rfl rfl rfl ?_ | refine WL.gyes rfl rfl rfl rfl (Yld.sub rfl rfl (by simp only [In]; omega)) ?_ | refine WL.gyes rfl rfl rfl rfl (Yld.pure tab_ok rfl) ?_ | refine WL.gyes rfl rfl rfl rfl (Yld.pickV rfl rfl rfl) ?_)
          refine WX.round4 (i + 1) b A' c' ⟨by omega, by rw [hY, ← hen]; exact hb3, by omega, hO3, hg3⟩ (by omega) (by repeat (first | exact Sub.nil | refine Sub.cons rfl ?_))
    · simp only [decide_eq_false_iff_not] at h
      obtain rfl : i = l.length := by omega
      rw [List.drop_eq_nil_of_le (Nat.le_refl _)] at hb
      have hb' : b = dd (val l) := by simpa [val, dd_zero] using hb
      have hB2 := hB1.keep hg2 (by simp)
      repeat (first | refine WL.y rfl (Yld.bload tab_ok hB2 rfl rfl rfl) ?_ | refine WC.seq ?_ | refine WC.block ?_ | refine WC.region ?_ | refine WL.nil ?_ | refine WX.then_normal ?_ | refine WC.skip ?_ | refine WC.exit ?_ | refine WC.ret ?_ | refine WX.then_exit ?_ | refine WX.then_ret ?_ | refine WX.block_normal ?_ | refine WX.block_ret ?_ | refine WX.block_same ?_ | refine WX.block_other rfl ?_ | refine WC.label ?_ | refine WC.scope ?_ | refine WX.scope_normal ?_ | refine WX.scope_ret ?_ | refine WX.scope_exit ?_ | refine WL.y rfl (Yld.add rfl rfl (by simp only [In]; omega)) ?_ | refine WL.y rfl (Yld.sub rfl rfl (by simp only [In]; omega)) ?_ | refine WL.y rfl (Yld.convB tab_ok rfl rfl rfl rfl) ?_ | refine WL.y rfl (Yld.conv tab_ok rfl rfl rfl (by simp only [In]; omega)) ?_ | refine WL.y rfl (Yld.quo rfl rfl (by omega) (by omega) (by simp only [In]; omega)) ?_ | refine WL.y rfl (Yld.rem rfl rfl (by omega) (by omega)) ?_ | refine WL.y rfl (Yld.pure tab_ok rfl) ?_ | refine WL.y rfl (Yld.pickV rfl rfl rfl) ?_ | refine WL.gno rfl rfl rfl rfl ?_ | refine WL.gyes rfl rfl rfl rfl (Yld.sub rfl rfl (by simp only [In]; omega)) ?_ | refine WL.gyes rfl rfl rfl rfl (Yld.pure tab_ok rfl) ?_ | refine WL.gyes rfl rfl rfl rfl (Yld.pickV rfl rfl rfl) ?_)
      have hval : x.natAbs = val l := by cases neg <;> simp at hz <;> omega
      refine WC.mergeW (S := List UInt8 × Option Addr × Nat) (fun s => [(3, .slice s.2.1 s.1.length s.2.2)]) (fun s w' => s.1 = dd (val l) ++ (if x < 0 then [45] else []) ∧ Own vb w' w1.heap.size 5 s.2.1 s.2.2 s.1 ∧ w1.grownBy w' none) rfl (fun h Q' hQ => ?_) (fun h Q' hQ => ?_) ?_
      · subst h
        have hneg : x < 0 := by simp at hz; omega
        repeat (first | refine WC.seq ?_ | refine WC.block ?_ | refine WC.region ?_ | refine WL.nil ?_ | refine WX.then_normal ?_ | refine WC.skip ?_ | refine WC.exit ?_ | refine WC.ret ?_ | refine WX.then_exit ?_ | refine WX.then_ret ?_ | refine WX.block_normal ?_ | refine WX.block_ret ?_ | refine WX.block_same ?_ | refine WX.block_other rfl ?_ | refine WC.label ?_ | refine WC.scope ?_ | refine WX.scope_normal ?_ | refine WX.scope_ret ?_ | refine WX.scope_exit ?_ | refine WL.y rfl (Yld.add rfl rfl (by simp only [In]; omega)) ?_ | refine WL.y rfl (Yld.sub rfl rfl (by simp only [In]; omega)) ?_ | refine WL.y rfl (Yld.convB tab_ok rfl rfl rfl rfl) ?_ | refine WL.y rfl (Yld.conv tab_ok rfl rfl rfl (by simp only [In]; omega)) ?_ | refine WL.y rfl (Yld.quo rfl rfl (by omega) (by omega) (by simp only [In]; omega)) ?_ | refine WL.y rfl (Yld.rem rfl rfl (by omega) (by omega)) ?_ | refine WL.y rfl (Yld.pure tab_ok rfl) ?_ | refine WL.y rfl (Yld.pickV rfl rfl rfl) ?_ | refine WL.gno rfl rfl rfl rfl ?_ | refine WL.gyes rfl rfl rfl rfl (Yld.sub rfl rfl (by simp only [In]; omega)) ?_ | refine WL.gyes rfl rfl rfl rfl (Yld.pure tab_ok rfl) ?_ | refine WL.gyes rfl rfl rfl rfl (Yld.pickV rfl rfl rfl) ?_)
        refine WL.lit (us := [vb 45]) tab_ok rfl rfl rfl (by intro u hu; rw [List.mem_singleton] at hu; rw [hu]; rfl) rfl (by omega) (fun g4 w4 hL4 hg4 hl4 => ?_)
        have hR4 : Rd vb w4 (some ⟨g4, 0, none⟩) 1 [45] := Rd.ofBl' hL4 (by simp) (by simp [maxLen])
        have hO4 := hO.grown hg4
        have hz3 := hg2.size
        have hz4 := hg4.size
        refine WL.append tab_ok rfl rfl One.b hO4 rfl rfl hR4 rfl rfl (by simp only [List.length_cons, List.length_nil]; omega) (by simp only [maxLen, List.length_cons, List.length_nil]; omega) (by omega) (fun A5 c5 w5 hO5 hg5 hf5 => ?_)
        repeat (first | refine WC.seq ?_ | refine WC.block ?_ | refine WC.region ?_ | refine WL.nil ?_ | refine WX.then_normal ?_ | refine WC.skip ?_ | refine WC.exit ?_ | refine WC.ret ?_ | refine WX.then_exit ?_ | refine WX.then_ret ?_ | refine WX.block_normal ?_ | refine WX.block_ret ?_ | refine WX.block_same ?_ | refine WX.block_other rfl ?_ | refine WC.label ?_ | refine WC.scope ?_ | refine WX.scope_normal ?_ | refine WX.scope_ret ?_ | refine WX.scope_exit ?_ | refine WL.y rfl (Yld.add rfl rfl (by simp only [In]; omega)) ?_ | refine WL.y rfl (Yld.sub rfl rfl (by simp only [In]; omega)) ?_ | refine WL.y rfl (Yld.convB tab_ok rfl rfl rfl rfl) ?_ | refine WL.y rfl (Yld.conv tab_ok rfl rfl rfl (by simp only [In]; omega)) ?_ | refine WL.y rfl (Yld.quo rfl rfl (by omega) (by omega) (by simp only [In]; omega)) ?_ | refine WL.y rfl (Yld.rem rfl rfl (by omega) (by omega)) ?_ | refine WL.y rfl (Yld.pure tab_ok rfl) ?_ | refine WL.y rfl (Yld.pickV rfl rfl rfl) ?_ | refine WL.gno rfl rfl rfl rfl ?_ | refine WL.gyes rfl rfl rfl rfl (Yld.sub rfl rfl (by simp only [In]; omega)) ?_ | refine WL.gyes rfl rfl rfl rfl (Yld.pure tab_ok rfl) ?_ | refine WL.gyes rfl rfl rfl rfl (Yld.pickV rfl rfl rfl) ?_)
        exact WX.weaken (by repeat (first | exact Sub.nil | refine Sub.cons rfl ?_)) (hQ (_, A5, c5) w5 ⟨by rw [if_pos hneg, hb'], hO5, gr_own (gr_trans hg2 hg4) hO4 hg5 (Nat.le_refl _)⟩)
      · subst h
        have hneg : ¬ x < 0 := by simp at hz; omega
        repeat (first | refine WC.seq ?_ | refine WC.block ?_ | refine WC.region ?_ | refine WL.nil ?_ | refine WX.then_normal ?_ | refine WC.skip ?_ | refine WC.exit ?_ | refine WC.ret ?_ | refine WX.then_exit ?_ | refine WX.then_ret ?_ | refine WX.block_normal ?_ | refine WX.block_ret ?_ | refine WX.block_same ?_ | refine WX.block_other rfl ?_ | refine WC.label ?_ | refine WC.scope ?_ | refine WX.scope_normal ?_ | refine WX.scope_ret ?_ | refine WX.scope_exit ?_ | refine WL.y rfl (Yld.add rfl rfl (by simp only [In]; omega)) ?_ | refine WL.y rfl (Yld.sub rfl rfl (by simp only [In]; omega)) ?_ | refine WL.y rfl (Yld.convB tab_ok rfl rfl rfl rfl) ?_ | refine WL.y rfl (Yld.conv tab_ok rfl rfl rfl (by simp only [In]; omega)) ?_ | refine WL.y rfl (Yld.quo rfl rfl (by omega) (by omega) (by simp only [In]; omega)) ?_ | refine WL.y rfl (Yld.rem rfl rfl (by omega) (by omega)) ?_ | refine WL.y rfl (Yld.pure tab_ok rfl) ?_ | refine WL.y rfl (Yld.pickV rfl rfl rfl) ?_ | refine WL.gno rfl rfl rfl rfl ?_ | refine WL.gyes rfl rfl rfl rfl (Yld.sub rfl rfl (by simp only [In]; omega)) ?_ | refine WL.gyes rfl rfl rfl rfl (Yld.pure tab_ok rfl) ?_ | refine WL.gyes rfl rfl rfl rfl (Yld.pickV rfl rfl rfl) ?_)
        exact WX.weaken (by repeat (first | exact Sub.nil | refine Sub.cons rfl ?_)) (hQ (_, A', c') w2 ⟨by rw [if_neg hneg, hb']; simp, hO, hg2⟩)
      · rintro ⟨b2, A2, c2⟩ w3 ⟨he, hO3, hg3⟩
        simp only at he hO3
        repeat (first | refine WC.seq ?_ | refine WC.block ?_ | refine WC.region ?_ | refine WL.nil ?_ | refine WX.then_normal ?_ | refine WC.skip ?_ | refine WC.exit ?_ | refine WC.ret ?_ | refine WX.then_exit ?_ | refine WX.then_ret ?_ | refine WX.block_normal ?_ | refine WX.block_ret ?_ | refine WX.block_same ?_ | refine WX.block_other rfl ?_ | refine WC.label ?_ | refine WC.scope ?_ | refine WX.scope_normal ?_ | refine WX.scope_ret ?_ | refine WX.scope_exit ?_ | refine WL.y rfl (Yld.add rfl rfl (by simp only [In]; omega)) ?_ | refine WL.y rfl (Yld.sub rfl rfl (by simp only [In]; omega)) ?_ | refine WL.y rfl (Yld.convB tab_ok rfl rfl rfl rfl) ?_ | refine WL.y rfl (Yld.conv tab_ok rfl rfl rfl (by simp only [In]; omega)) ?_ | refine WL.y rfl (Yld.quo rfl rfl (by omega) (by omega) (by simp only [In]; omega)) ?_ | refine WL.y rfl (Yld.rem rfl rfl (by omega) (by omega)) ?_ | refine WL.y rfl (Yld.pure tab_ok rfl) ?_ | refine WL.y rfl (Yld.pickV rfl rfl rfl) ?_ | refine WL.gno rfl rfl rfl rfl ?_ | refine WL.gyes rfl rfl rfl rfl (Yld.sub rfl rfl (by simp only [In]; omega)) ?_ | refine WL.gyes rfl rfl rfl rfl (Yld.pure tab_ok rfl) ?_ | refine WL.gyes rfl rfl rfl rfl (Yld.pickV rfl rfl rfl) ?_)
        refine WL.call rfl rfl (reverse_fn A2 c2 _ b2 w3 hO3) ?_
        rintro _ w4 ⟨rfl, hO4, hg4⟩
        repeat (first | refine WL.y rfl (Yld.b2s tab_ok hO4.rd rfl rfl rfl rfl (by simp)) ?_ | refine WC.seq ?_ | refine WC.block ?_ | refine WC.region ?_ | refine WL.nil ?_ | refine WX.then_normal ?_ | refine WC.skip ?_ | refine WC.exit ?_ | refine WC.ret ?_ | refine WX.then_exit ?_ | refine WX.then_ret ?_ | refine WX.block_normal ?_ | refine WX.block_ret ?_ | refine WX.block_same ?_ | refine WX.block_other rfl ?_ | refine WC.label ?_ | refine WC.scope ?_ | refine WX.scope_normal ?_ | refine WX.scope_ret ?_ | refine WX.scope_exit ?_ | refine WL.y rfl (Yld.add rfl rfl (by simp only [In]; omega)) ?_ | refine WL.y rfl (Yld.sub rfl rfl (by simp only [In]; omega)) ?_ | refine WL.y rfl (Yld.convB tab_ok rfl rfl rfl rfl) ?_ | refine WL.y rfl (Yld.conv tab_ok rfl rfl rfl (by simp only [In]; omega)) ?_ | refine WL.y rfl (Yld.quo rfl rfl (by omega) (by omega) (by simp only [In]; omega)) ?_ | refine WL.y rfl (Yld.rem rfl rfl (by omega) (by omega)) ?_ | refine WL.y rfl (Yld.pure tab_ok rfl) ?_ | refine WL.y rfl (Yld.pickV rfl rfl rfl) ?_ | refine WL.gno rfl rfl rfl rfl ?_ | refine WL.gyes rfl rfl rfl rfl (Yld.sub rfl rfl (by simp only [In]; omega)) ?_ | refine WL.gyes rfl rfl rfl rfl (Yld.pure tab_ok rfl) ?_ | refine WL.gyes rfl rfl rfl rfl (Yld.pickV rfl rfl rfl) ?_)
        refine WX.ret1 rfl rfl ⟨?_, gr_trans hg1 (gr_own hg3 hO3 hg4 (Nat.le_refl _))⟩
        unfold txt
        rw [if_neg hx0, hval, he, List.reverse_append]
        split <;> rfl
end Go.Proofs.YtilphcippnfklaaDoor
 namespace Go.Proofs.YtilphcippnfklaaDoor
open Go Go.RowKit
attribute [local irreducible] WL WC WX WQ WK WJ Yld Eff Ef0 Fn
theorem txt_m4 : txt (-4) = [45, 52] := by simp [txt, dd_pos, dd_zero, dc]
theorem txt_1 : txt 1 = [49] := by simp [txt, dd_pos, dd_zero, dc]
theorem txt_m1 : txt (-1) = [45, 49] := by simp [txt, dd_pos, dd_zero, dc]
set_option maxHeartbeats 1000000 in
theorem nfirst_fn (w : World) : Fn Tryd.prog 20 ⟨[]⟩ w fun v w' => v = .bool true ∧ w.grownBy w' none := by
  refine Fn.enter (by kernel_rfl) Tryd.func20 rfl Tryd.ntmps20 rfl ?_
  repeat (first | refine WC.seq ?_ | refine WC.block ?_ | refine WC.region ?_ | refine WL.nil ?_ | refine WX.then_normal ?_ | refine WC.skip ?_ | refine WC.exit ?_ | refine WC.ret ?_ | refine WX.then_exit ?_ | refine WX.then_ret ?_ | refine WX.block_normal ?_ | refine WX.block_ret ?_ | refine WX.block_same ?_ | refine WX.block_other rfl ?_ | refine WC.label ?_ | refine WC.scope ?_ | refine WX.scope_normal ?_ | refine WX.scope_ret ?_ | refine WX.scope_exit ?_ | refine WL.y rfl (Yld.add rfl rfl (by simp only [In]; omega)) ?_ | refine WL.y rfl (Yld.sub rfl rfl (by simp only [In]; omega)) ?_ | refine WL.y rfl (Yld.mul rfl rfl (by simp only [In]; omega)) ?_ | refine WL.y rfl (Yld.convB tab_ok rfl rfl rfl rfl) ?_ | refine WL.y rfl (Yld.conv tab_ok rfl rfl rfl (by simp only [In]; omega)) ?_ | refine WL.y rfl (Yld.quo rfl rfl (by omega) (by omega) (by simp only [In]; omega)) ?_ | refine WL.y rfl (Yld.rem rfl rfl (by omega) (by omega)) ?_ | refine WL.y rfl (Yld.shl rfl rfl (by omega)) ?_ | refine WL.y rfl (Yld.shr rfl rfl (by omega)) ?_ | refine WL.y rfl (Yld.pure tab_ok rfl) ?_ | refine WL.y rfl (Yld.fld flds_ok rfl rfl rfl) ?_ | refine WL.y rfl (Yld.max2 rfl rfl) ?_ | refine WL.y rfl (Yld.min2 rfl rfl) ?_ | refine WL.y rfl (Yld.pickV rfl rfl rfl) ?_ | refine WL.gno rfl rfl rfl rfl ?_ | refine WL.gyes rfl rfl rfl rfl (Yld.add rfl rfl (by simp only [In]; omega)) ?_ | refine WL.gyes rfl rfl rfl rfl (Yld.sub rfl rfl (by simp only [In]; omega)) ?_ | refine WL.gyes rfl rfl rfl rfl (Yld.mul rfl rfl (by simp only [In]; omega)) ?_ | refine WL.gyes rfl rfl rfl rfl (Yld.convB tab_ok rfl rfl rfl rfl) ?_ | refine WL.gyes rfl rfl rfl rfl (Yld.conv tab_ok rfl rfl rfl (by simp only [In]; omega)) ?_ | refine WL.gyes rfl rfl rfl rfl (Yld.quo rfl rfl (by omega) (by omega) (by simp only [In]; omega)) ?_ | refine WL.gyes rfl rfl rfl rfl (Yld.rem rfl rfl (by omega) (by omega)) ?_ | refine WL.gyes rfl rfl rfl rfl (Yld.shl rfl rfl (by omega)) ?_ | refine WL.gyes rfl rfl rfl rfl (Yld.shr rfl rfl (by omega)) ?_ | refine WL.gyes rfl rfl rfl rfl (Yld.pure tab_ok rfl) ?_ | refine WL.gyes rfl rfl rfl rfl (Yld.fld flds_ok rfl rfl rfl) ?_ | refine WL.gyes rfl rfl rfl rfl (Yld.max2 rfl rfl) ?_ | refine WL.gyes rfl rfl rfl rfl (Yld.min2 rfl rfl) ?_ | refine WL.gyes rfl rfl rfl rfl (Yld.pickV rfl rfl rfl) ?_ | refine WL.gun rfl rfl rfl rfl ?_)
  refine WL.call rfl rfl (of_fn (-7) w (by omega) (by omega)) ?_
  rintro _ w1 ⟨hN1, hg1⟩
  refine WL.call rfl rfl (of_fn 2 w1 (by omega) (by omega)) ?_
  rintro _ w2 ⟨hN2, hg2⟩
  refine WL.call rfl rfl (div_fn _ _ (-7) 2 3 w2 (hN1.grown hg2) hN2 (by omega)) ?_
  rintro _ w3 ⟨⟨qa, za, rfl, hNa, hfa⟩, hg3⟩
  obtain ⟨ra, hfa⟩ := hfa.1 (by omega)
  obtain ⟨rfl, _⟩ := hfa.unique (q' := -4) (r' := 1) ⟨by omega, by omega⟩
  obtain ⟨a1, a2, rfl, hoa1, hoa2⟩ := hNa.agg
  repeat (first | refine WC.seq ?_ | refine WC.block ?_ | refine WC.region ?_ | refine WL.nil ?_ | refine WX.then_normal ?_ | refine WC.skip ?_ | refine WC.exit ?_ | refine WC.ret ?_ | refine WX.then_exit ?_ | refine WX.then_ret ?_ | refine WX.block_normal ?_ | refine WX.block_ret ?_ | refine WX.block_same ?_ | refine WX.block_other rfl ?_ | refine WC.label ?_ | refine WC.scope ?_ | refine WX.scope_normal ?_ | refine WX.scope_ret ?_ | refine WX.scope_exit ?_ | refine WL.y rfl (Yld.add rfl rfl (by simp only [In]; omega)) ?_ | refine WL.y rfl (Yld.sub rfl rfl (by simp only [In]; omega)) ?_ | refine WL.y rfl (Yld.mul rfl rfl (by simp only [In]; omega)) ?_ | refine WL.y rfl (Yld.convB tab_ok rfl rfl rfl rfl) ?_ | refine WL.y rfl (Yld.conv tab_ok rfl rfl rfl (by simp only [In]; omega)) ?_ | refine WL.y rfl (Yld.quo rfl rfl (by omega) (by omega) (by simp only [In]; omega)) ?_ | refine WL.y rfl (Yld.rem rfl rfl (by omega) (by omega)) ?_ | refine WL.y rfl (Yld.shl rfl rfl (by omega)) ?_ | refine WL.y rfl (Yld.shr rfl rfl (by omega)) ?_ | refine WL.y rfl (Yld.pure tab_ok rfl) ?_ | refine WL.y rfl (Yld.fld flds_ok rfl rfl rfl) ?_ | refine WL.y rfl (Yld.max2 rfl rfl) ?_ | refine WL.y rfl (Yld.min2 rfl rfl) ?_ | refine WL.y rfl (Yld.pickV rfl rfl rfl) ?_ | refine WL.gno rfl rfl rfl rfl ?_ | refine WL.gyes rfl rfl rfl rfl (Yld.add rfl rfl (by simp only [In]; omega)) ?_ | refine WL.gyes rfl rfl rfl rfl (Yld.sub rfl rfl (by simp only [In]; omega)) ?_ | refine WL.gyes rfl rfl rfl rfl (Yld.mul rfl rfl (by simp only [In]; omega)) ?_ | refine WL.gyes rfl rfl rfl rfl (Yld.convB tab_ok rfl rfl rfl rfl) ?_ | refine WL.gyes rfl rfl rfl rfl (Yld.conv tab_ok rfl rfl rfl (by simp only [In]; omega)) ?_ | refine WL.gyes rfl rfl rfl rfl (Yld.quo rfl rfl (by omega) (by omega) (by simp only [In]; omega)) ?_ | refine WL.gyes rfl rfl rfl rfl (Yld.rem rfl rfl (by omega) (by omega)) ?_ | refine WL.gyes rfl rfl rfl rfl (Yld.shl rfl rfl (by omega)) ?_ | refine WL.gyes rfl rfl rfl rfl (Yld.shr rfl rfl (by omega)) ?_ | refine WL.gyes rfl rfl rfl rfl (Yld.pure tab_ok rfl) ?_ | refine WL.gyes rfl rfl rfl rfl (Yld.fld flds_ok rfl rfl rfl) ?_ | refine WL.gyes rfl rfl rfl rfl (Yld.max2 rfl rfl) ?_ | refine WL.gyes rfl rfl rfl rfl (Yld.min2 rfl rfl) ?_ | refine WL.gyes rfl rfl rfl rfl (Yld.pickV rfl rfl rfl) ?_ | refine WL.gun rfl rfl rfl rfl ?_)
  refine WL.alloc rfl zero44 (fun g1 w4 hB1 hg4 hl4 => ?_)
  refine WL.storeW (vs := [a1, a2]) tab_ok rfl rfl rfl (by intro u hu; simp at hu; rcases hu with rfl | rfl <;> assumption) hB1 rfl rfl (fun w5 hB15 hg5 => ?_)
  have hNa5 := (hNa.grown hg4).stored hB1 zero_no hg5
  have hg05 := gr_new (gr_trans (gr_trans (gr_trans hg1 hg2) hg3) hg4) hg5 (by have := hg1.size; have := hg2.size; have := hg3.size; omega)
  repeat (first | refine WC.seq ?_ | refine WC.block ?_ | refine WC.region ?_ | refine WL.nil ?_ | refine WX.then_normal ?_ | refine WC.skip ?_ | refine WC.exit ?_ | refine WC.ret ?_ | refine WX.then_exit ?_ | refine WX.then_ret ?_ | refine WX.block_normal ?_ | refine WX.block_ret ?_ | refine WX.block_same ?_ | refine WX.block_other rfl ?_ | refine WC.label ?_ | refine WC.scope ?_ | refine WX.scope_normal ?_ | refine WX.scope_ret ?_ | refine WX.scope_exit ?_ | refine WL.y rfl (Yld.add rfl rfl (by simp only [In]; omega)) ?_ | refine WL.y rfl (Yld.sub rfl rfl (by simp only [In]; omega)) ?_ | refine WL.y rfl (Yld.mul rfl rfl (by simp only [In]; omega)) ?_ | refine WL.y rfl (Yld.convB tab_ok rfl rfl rfl rfl) ?_ | refine WL.y rfl (Yld.conv tab_ok rfl rfl rfl (by simp only [In]; omega)) ?_ | refine WL.y rfl (Yld.quo rfl rfl (by omega) (by omega) (by simp only [In]; omega)) ?_ | refine WL.y rfl (Yld.rem rfl rfl (by omega) (by omega)) ?_ | refine WL.y rfl (Yld.shl rfl rfl (by omega)) ?_ | refine WL.y rfl (Yld.shr rfl rfl (by omega)) ?_ | refine WL.y rfl (Yld.pure tab_ok rfl) ?_ | refine WL.y rfl (Yld.fld flds_ok rfl rfl rfl) ?_ | refine WL.y rfl (Yld.max2 rfl rfl) ?_ | refine WL.y rfl (Yld.min2 rfl rfl) ?_ | refine WL.y rfl (Yld.pickV rfl rfl rfl) ?_ | refine WL.gno rfl rfl rfl rfl ?_ | refine WL.gyes rfl rfl rfl rfl (Yld.add rfl rfl (by simp only [In]; omega)) ?_ | refine WL.gyes rfl rfl rfl rfl (Yld.sub rfl rfl (by simp only [In]; omega)) ?_ | refine WL.gyes rfl rfl rfl rfl (Yld.mul rfl rfl (by simp only [In]; omega)) ?_ | refine WL.gyes rfl rfl rfl rfl (Yld.convB tab_ok rfl rfl rfl rfl) ?_ | refine WL.gyes rfl rfl rfl rfl (Yld.conv tab_ok rfl rfl rfl (by simp only [In]; omega)) ?_ | refine WL.gyes rfl rfl rfl rfl (Yld.quo rfl rfl (by omega) (by omega) (by simp only [In]; omega)) ?_ | refine WL.gyes rfl rfl rfl rfl (Yld.rem rfl rfl (by omega) (by omega)) ?_ | refine WL.gyes rfl rfl rfl rfl (Yld.shl rfl rfl (by omega)) ?_ | refine WL.gyes rfl rfl rfl rfl (Yld.shr rfl rfl (by omega)) ?_ | refine WL.gyes rfl rfl rfl rfl (Yld.pure tab_ok rfl) ?_ | refine WL.gyes rfl rfl rfl rfl (Yld.fld flds_ok rfl rfl rfl) ?_ | refine WL.gyes rfl rfl rfl rfl (Yld.max2 rfl rfl) ?_ | refine WL.gyes rfl rfl rfl rfl (Yld.min2 rfl rfl) ?_ | refine WL.gyes rfl rfl rfl rfl (Yld.pickV rfl rfl rfl) ?_ | refine WL.gun rfl rfl rfl rfl ?_)
  refine WL.call rfl rfl (of_fn (-7) w5 (by omega) (by omega)) ?_
  rintro _ w6 ⟨hN6, hg6⟩
  refine WL.call rfl rfl (of_fn 2 w6 (by omega) (by omega)) ?_
  rintro _ w7 ⟨hN7, hg7⟩
  refine WL.call rfl rfl (mod_fn _ _ (-7) 2 3 w7 (hN6.grown hg7) hN7 (by omega)) ?_
  rintro _ w8 ⟨⟨qb, zb, rfl, hNb, hfb⟩, hg8⟩
  obtain ⟨rb, hfb⟩ := hfb.1 (by omega)
  obtain ⟨_, rfl⟩ := hfb.unique (q' := -4) (r' := 1) ⟨by omega, by omega⟩
  obtain ⟨b1, b2, rfl, hob1, hob2⟩ := hNb.agg
  repeat (first | refine WC.seq ?_ | refine WC.block ?_ | refine WC.region ?_ | refine WL.nil ?_ | refine WX.then_normal ?_ | refine WC.skip ?_ | refine WC.exit ?_ | refine WC.ret ?_ | refine WX.then_exit ?_ | refine WX.then_ret ?_ | refine WX.block_normal ?_ | refine WX.block_ret ?_ | refine WX.block_same ?_ | refine WX.block_other rfl ?_ | refine WC.label ?_ | refine WC.scope ?_ | refine WX.scope_normal ?_ | refine WX.scope_ret ?_ | refine WX.scope_exit ?_ | refine WL.y rfl (Yld.add rfl rfl (by simp only [In]; omega)) ?_ | refine WL.y rfl (Yld.sub rfl rfl (by simp only [In]; omega)) ?_ | refine WL.y rfl (Yld.mul rfl rfl (by simp only [In]; omega)) ?_ | refine WL.y rfl (Yld.convB tab_ok rfl rfl rfl rfl) ?_ | refine WL.y rfl (Yld.conv tab_ok rfl rfl rfl (by simp only [In]; omega)) ?_ | refine WL.y rfl (Yld.quo rfl rfl (by omega) (by omega) (by simp only [In]; omega)) ?_ | refine WL.y rfl (Yld.rem rfl rfl (by omega) (by omega)) ?_ | refine WL.y rfl (Yld.shl rfl rfl (by omega)) ?_ | refine WL.y rfl (Yld.shr rfl rfl (by omega)) ?_ | refine WL.y rfl (Yld.pure tab_ok rfl) ?_ | refine WL.y rfl (Yld.fld flds_ok rfl rfl rfl) ?_ | refine WL.y rfl (Yld.max2 rfl rfl) ?_ | refine WL.y rfl (Yld.min2 rfl rfl) ?_ | refine WL.y rfl (Yld.pickV rfl rfl rfl) ?_ | refine WL.gno rfl rfl rfl rfl ?_ | refine WL.gyes rfl rfl rfl rfl (Yld.add rfl rfl (by simp only [In]; omega)) ?_ | refine WL.gyes rfl rfl rfl rfl (Yld.sub rfl rfl (by simp only [In]; omega)) ?_ | refine WL.gyes rfl rfl rfl rfl (Yld.mul rfl rfl (by simp only [In]; omega)) ?_ | refine WL.gyes rfl rfl rfl rfl (Yld.convB tab_ok rfl rfl rfl rfl) ?_ | refine WL.gyes rfl rfl rfl rfl (Yld.conv tab_ok rfl rfl rfl (by simp only [In]; omega)) ?_ | refine WL.gyes rfl rfl rfl rfl (Yld.quo rfl rfl (by omega) (by omega) (by simp only [In]; omega)) ?_ | refine WL.gyes rfl rfl rfl rfl (Yld.rem rfl rfl (by omega) (by omega)) ?_ | refine WL.gyes rfl rfl rfl rfl (Yld.shl rfl rfl (by omega)) ?_ | refine WL.gyes rfl rfl rfl rfl (Yld.shr rfl rfl (by omega)) ?_ | refine WL.gyes rfl rfl rfl rfl (Yld.pure tab_ok rfl) ?_ | refine WL.gyes rfl rfl rfl rfl (Yld.fld flds_ok rfl rfl rfl) ?_ | refine WL.gyes rfl rfl rfl rfl (Yld.max2 rfl rfl) ?_ | refine WL.gyes rfl rfl rfl rfl (Yld.min2 rfl rfl) ?_ | refine WL.gyes rfl rfl rfl rfl (Yld.pickV rfl rfl rfl) ?_ | refine WL.gun rfl rfl rfl rfl ?_)
  refine WL.alloc rfl zero44 (fun g2 w9 hB2 hg9 hl9 => ?_)
  refine WL.storeW (vs := [b1, b2]) tab_ok rfl rfl rfl (by intro u hu; simp at hu; rcases hu with rfl | rfl <;> assumption) hB2 rfl rfl (fun w10 hB210 hg10 => ?_)
  have hNb10 := (hNb.grown hg9).stored hB2 zero_no hg10
  have hg510 := gr_new (gr_trans (gr_trans (gr_trans hg6 hg7) hg8) hg9) hg10 (by have := hg6.size; have := hg7.size; have := hg8.size; omega)
  repeat (first | refine WC.seq ?_ | refine WC.block ?_ | refine WC.region ?_ | refine WL.nil ?_ | refine WX.then_normal ?_ | refine WC.skip ?_ | refine WC.exit ?_ | refine WC.ret ?_ | refine WX.then_exit ?_ | refine WX.then_ret ?_ | refine WX.block_normal ?_ | refine WX.block_ret ?_ | refine WX.block_same ?_ | refine WX.block_other rfl ?_ | refine WC.label ?_ | refine WC.scope ?_ | refine WX.scope_normal ?_ | refine WX.scope_ret ?_ | refine WX.scope_exit ?_ | refine WL.y rfl (Yld.add rfl rfl (by simp only [In]; omega)) ?_ | refine WL.y rfl (Yld.sub rfl rfl (by simp only [In]; omega)) ?_ | refine WL.y rfl (Yld.mul rfl rfl (by simp only [In]; omega)) ?_ | refine WL.y rfl (Yld.convB tab_ok rfl rfl rfl rfl) ?_ | refine WL.y rfl (Yld.conv tab_ok rfl rfl rfl (by simp only [In]; omega)) ?_ | refine WL.y rfl (Yld.quo rfl rfl (by omega) (by omega) (by simp only [In]; omega)) ?_ | refine WL.y rfl (Yld.rem rfl rfl (by omega) (by omega)) ?_ | refine WL.y rfl (Yld.shl rfl rfl (by omega)) ?_ | refine WL.y rfl (Yld.shr rfl rfl (by omega)) ?_ | refine WL.y rfl (Yld.pure tab_ok rfl) ?_ | refine WL.y rfl (Yld.fld flds_ok rfl rfl rfl) ?_ | refine WL.y rfl (Yld.max2 rfl rfl) ?_ | refine WL.y rfl (Yld.min2 rfl rfl) ?_ | refine WL.y rfl (Yld.pickV rfl rfl rfl) ?_ | refine WL.gno rfl rfl rfl rfl ?_ | refine WL.gyes rfl rfl rfl rfl (Yld.add rfl rfl (by simp only [In]; omega)) ?_ | refine WL.gyes rfl rfl rfl rfl (Yld.sub rfl rfl (by simp only [In]; omega)) ?_ | refine WL.gyes rfl rfl rfl rfl (Yld.mul rfl rfl (by simp only [In]; omega)) ?_ | refine WL.gyes rfl rfl rfl rfl (Yld.convB tab_ok rfl rfl rfl rfl) ?_ | refine WL.gyes rfl rfl rfl rfl (Yld.conv tab_ok rfl rfl rfl (by simp only [In]; omega)) ?_ | refine WL.gyes rfl rfl rfl rfl (Yld.quo rfl rfl (by omega) (by omega) (by simp only [In]; omega)) ?_ | refine WL.gyes rfl rfl rfl rfl (Yld.rem rfl rfl (by omega) (by omega)) ?_ | refine WL.gyes rfl rfl rfl rfl (Yld.shl rfl rfl (by omega)) ?_ | refine WL.gyes rfl rfl rfl rfl (Yld.shr rfl rfl (by omega)) ?_ | refine WL.gyes rfl rfl rfl rfl (Yld.pure tab_ok rfl) ?_ | refine WL.gyes rfl rfl rfl rfl (Yld.fld flds_ok rfl rfl rfl) ?_ | refine WL.gyes rfl rfl rfl rfl (Yld.max2 rfl rfl) ?_ | refine WL.gyes rfl rfl rfl rfl (Yld.min2 rfl rfl) ?_ | refine WL.gyes rfl rfl rfl rfl (Yld.pickV rfl rfl rfl) ?_ | refine WL.gun rfl rfl rfl rfl ?_)
  refine WL.call rfl rfl (of_fn 7 w10 (by omega) (by omega)) ?_
  rintro _ w11 ⟨hN11, hg11⟩
  refine WL.call rfl rfl (of_fn (-2) w11 (by omega) (by omega)) ?_
  rintro _ w12 ⟨hN12, hg12⟩
  refine WL.call rfl rfl (mod_fn _ _ 7 (-2) 3 w12 (hN11.grown hg12) hN12 (by omega)) ?_
  rintro _ w13 ⟨⟨qc, zc, rfl, hNc, hfc⟩, hg13⟩
  obtain ⟨rc, hfc⟩ := hfc.1 (by omega)
  obtain ⟨_, rfl⟩ := hfc.unique (q' := -4) (r' := -1) ⟨by omega, by omega⟩
  obtain ⟨c1, c2, rfl, hoc1, hoc2⟩ := hNc.agg
  repeat (first | refine WC.seq ?_ | refine WC.block ?_ | refine WC.region ?_ | refine WL.nil ?_ | refine WX.then_normal ?_ | refine WC.skip ?_ | refine WC.exit ?_ | refine WC.ret ?_ | refine WX.then_exit ?_ | refine WX.then_ret ?_ | refine WX.block_normal ?_ | refine WX.block_ret ?_ | refine WX.block_same ?_ | refine WX.block_other rfl ?_ | refine WC.label ?_ | refine WC.scope ?_ | refine WX.scope_normal ?_ | refine WX.scope_ret ?_ | refine WX.scope_exit ?_ | refine WL.y rfl (Yld.add rfl rfl (by simp only [In]; omega)) ?_ | refine WL.y rfl (Yld.sub rfl rfl (by simp only [In]; omega)) ?_ | refine WL.y rfl (Yld.mul rfl rfl (by simp only [In]; omega)) ?_ | refine WL.y rfl (Yld.convB tab_ok rfl rfl rfl rfl) ?_ | refine WL.y rfl (Yld.conv tab_ok rfl rfl rfl (by simp only [In]; omega)) ?_ | refine WL.y rfl (Yld.quo rfl rfl (by omega) (by omega) (by simp only [In]; omega)) ?_ | refine WL.y rfl (Yld.rem rfl rfl (by omega) (by omega)) ?_ | refine WL.y rfl (Yld.shl rfl rfl (by omega)) ?_ | refine WL.y rfl (Yld.shr rfl rfl (by omega)) ?_ | refine WL.y rfl (Yld.pure tab_ok rfl) ?_ | refine WL.y rfl (Yld.fld flds_ok rfl rfl rfl) ?_ | refine WL.y rfl (Yld.max2 rfl rfl) ?_ | refine WL.y rfl (Yld.min2 rfl rfl) ?_ | refine WL.y rfl (Yld.pickV rfl rfl rfl) ?_ | refine WL.gno rfl rfl rfl rfl ?_ | refine WL.gyes rfl rfl rfl rfl (Yld.add rfl rfl (by simp only [In]; omega)) ?_ | refine WL.gyes rfl rfl rfl rfl (Yld.sub rfl rfl (by simp only [In]; omega)) ?_ | refine WL.gyes rfl rfl rfl rfl (Yld.mul rfl rfl (by simp only [In]; omega)) ?_ | refine WL.gyes rfl rfl rfl rfl (Yld.convB tab_ok rfl rfl rfl rfl) ?_ | refine WL.gyes rfl rfl rfl rfl (Yld.conv tab_ok rfl rfl rfl (by simp only [In]; omega)) ?_ | refine WL.gyes rfl rfl rfl rfl (Yld.quo rfl rfl (by omega) (by omega) (by simp only [In]; omega)) ?_ | refine WL.gyes rfl rfl rfl rfl (Yld.rem rfl rfl (by omega) (by omega)) ?_ | refine WL.gyes rfl rfl rfl rfl (Yld.shl rfl rfl (by omega)) ?_ | refine WL.gyes rfl rfl rfl rfl (Yld.shr rfl rfl (by omega)) ?_ | refine WL.gyes rfl rfl rfl rfl (Yld.pure tab_ok rfl) ?_ | refine WL.gyes rfl rfl rfl rfl (Yld.fld flds_ok rfl rfl rfl) ?_ | refine WL.gyes rfl rfl rfl rfl (Yld.max2 rfl rfl) ?_ | refine WL.gyes rfl rfl rfl rfl (Yld.min2 rfl rfl) ?_ | refine WL.gyes rfl rfl rfl rfl (Yld.pickV rfl rfl rfl) ?_ | refine WL.gun rfl rfl rfl rfl ?_)
  refine WL.alloc rfl zero44 (fun g3 w14 hB3 hg14 hl14 => ?_)
  refine WL.storeW (vs := [c1, c2]) tab_ok rfl rfl rfl (by intro u hu; simp at hu; rcases hu with rfl | rfl <;> assumption) hB3 rfl rfl (fun w15 hB315 hg15 => ?_)
  have hNc15 := (hNc.grown hg14).stored hB3 zero_no hg15
  have hg1015 := gr_new (gr_trans (gr_trans (gr_trans hg11 hg12) hg13) hg14) hg15 (by have := hg11.size; have := hg12.size; have := hg13.size; omega)
  have hBa := (hB15.keep hg510 (by simp)).keep hg1015 (by simp)
  have hBb := hB210.keep hg1015 (by simp)
  have hNa15 := (hNa5.grown hg510).grown hg1015
  have hNb15 := hNb10.grown hg1015
  have hg015 := gr_trans (gr_trans hg05 hg510) hg1015
  repeat (first | refine WC.seq ?_ | refine WC.block ?_ | refine WC.region ?_ | refine WL.nil ?_ | refine WX.then_normal ?_ | refine WC.skip ?_ | refine WC.exit ?_ | refine WC.ret ?_ | refine WX.then_exit ?_ | refine WX.then_ret ?_ | refine WX.block_normal ?_ | refine WX.block_ret ?_ | refine WX.block_same ?_ | refine WX.block_other rfl ?_ | refine WC.label ?_ | refine WC.scope ?_ | refine WX.scope_normal ?_ | refine WX.scope_ret ?_ | refine WX.scope_exit ?_ | refine WL.y rfl (Yld.add rfl rfl (by simp only [In]; omega)) ?_ | refine WL.y rfl (Yld.sub rfl rfl (by simp only [In]; omega)) ?_ | refine WL.y rfl (Yld.mul rfl rfl (by simp only [In]; omega)) ?_ | refine WL.y rfl (Yld.convB tab_ok rfl rfl rfl rfl) ?_ | refine WL.y rfl (Yld.conv tab_ok rfl rfl rfl (by simp only [In]; omega)) ?_ | refine WL.y rfl (Yld.quo rfl rfl (by omega) (by omega) (by simp only [In]; omega)) ?_ | refine WL.y rfl (Yld.rem rfl rfl (by omega) (by omega)) ?_ | refine WL.y rfl (Yld.shl rfl rfl (by omega)) ?_ | refine WL.y rfl (Yld.shr rfl rfl (by omega)) ?_ | refine WL.y rfl (Yld.pure tab_ok rfl) ?_ | refine WL.y rfl (Yld.fld flds_ok rfl rfl rfl) ?_ | refine WL.y rfl (Yld.max2 rfl rfl) ?_ | refine WL.y rfl (Yld.min2 rfl rfl) ?_ | refine WL.y rfl (Yld.pickV rfl rfl rfl) ?_ | refine WL.gno rfl rfl rfl rfl ?_ | refine WL.gyes rfl rfl rfl rfl (Yld.add rfl rfl (by simp only [In]; omega)) ?_ | refine WL.gyes rfl rfl rfl rfl (Yld.sub rfl rfl (by simp only [In]; omega)) ?_ | refine WL.gyes rfl rfl rfl rfl (Yld.mul rfl rfl (by simp only [In]; omega)) ?_ | refine WL.gyes rfl rfl rfl rfl (Yld.convB tab_ok rfl rfl rfl rfl) ?_ | refine WL.gyes rfl rfl rfl rfl (Yld.conv tab_ok rfl rfl rfl (by simp only [In]; omega)) ?_ | refine WL.gyes rfl rfl rfl rfl (Yld.quo rfl rfl (by omega) (by omega) (by simp only [In]; omega)) ?_ | refine WL.gyes rfl rfl rfl rfl (Yld.rem rfl rfl (by omega) (by omega)) ?_ | refine WL.gyes rfl rfl rfl rfl (Yld.shl rfl rfl (by omega)) ?_ | refine WL.gyes rfl rfl rfl rfl (Yld.shr rfl rfl (by omega)) ?_ | refine WL.gyes rfl rfl rfl rfl (Yld.pure tab_ok rfl) ?_ | refine WL.gyes rfl rfl rfl rfl (Yld.fld flds_ok rfl rfl rfl) ?_ | refine WL.gyes rfl rfl rfl rfl (Yld.max2 rfl rfl) ?_ | refine WL.gyes rfl rfl rfl rfl (Yld.min2 rfl rfl) ?_ | refine WL.gyes rfl rfl rfl rfl (Yld.pickV rfl rfl rfl) ?_ | refine WL.gun rfl rfl rfl rfl ?_)
  refine WL.y rfl (Yld.bagg (vs := [a1, a2]) tab_ok hBa rfl rfl rfl rfl) ?_
  refine WL.call rfl rfl (text_fn _ (-4) (3 + 4) w15 hNa15 (by omega)) ?_
  rintro _ w16 ⟨rfl, hg16⟩
  rw [txt_m4]
  repeat (first | refine WC.seq ?_ | refine WC.block ?_ | refine WC.region ?_ | refine WL.nil ?_ | refine WX.then_normal ?_ | refine WC.skip ?_ | refine WC.exit ?_ | refine WC.ret ?_ | refine WX.then_exit ?_ | refine WX.then_ret ?_ | refine WX.block_normal ?_ | refine WX.block_ret ?_ | refine WX.block_same ?_ | refine WX.block_other rfl ?_ | refine WC.label ?_ | refine WC.scope ?_ | refine WX.scope_normal ?_ | refine WX.scope_ret ?_ | refine WX.scope_exit ?_ | refine WL.y rfl (Yld.add rfl rfl (by simp only [In]; omega)) ?_ | refine WL.y rfl (Yld.sub rfl rfl (by simp only [In]; omega)) ?_ | refine WL.y rfl (Yld.mul rfl rfl (by simp only [In]; omega)) ?_ | refine WL.y rfl (Yld.convB tab_ok rfl rfl rfl rfl) ?_ | refine WL.y rfl (Yld.conv tab_ok rfl rfl rfl (by simp only [In]; omega)) ?_ | refine WL.y rfl (Yld.quo rfl rfl (by omega) (by omega) (by simp only [In]; omega)) ?_ | refine WL.y rfl (Yld.rem rfl rfl (by omega) (by omega)) ?_ | refine WL.y rfl (Yld.shl rfl rfl (by omega)) ?_ | refine WL.y rfl (Yld.shr rfl rfl (by omega)) ?_ | refine WL.y rfl (Yld.pure tab_ok rfl) ?_ | refine WL.y rfl (Yld.fld flds_ok rfl rfl rfl) ?_ | refine WL.y rfl (Yld.max2 rfl rfl) ?_ | refine WL.y rfl (Yld.min2 rfl rfl) ?_ | refine WL.y rfl (Yld.pickV rfl rfl rfl) ?_ | refine WL.gno rfl rfl rfl rfl ?_ | refine WL.gyes rfl rfl rfl rfl (Yld.add rfl rfl (by simp only [In]; omega)) ?_ | refine WL.gyes rfl rfl rfl rfl (Yld.sub rfl rfl (by simp only [In]; omega)) ?_ | refine WL.gyes rfl rfl rfl rfl (Yld.mul rfl rfl (by simp only [In]; omega)) ?_ | refine WL.gyes rfl rfl rfl rfl (Yld.convB tab_ok rfl rfl rfl rfl) ?_ | refine WL.gyes rfl rfl rfl rfl (Yld.conv tab_ok rfl rfl rfl (by simp only [In]; omega)) ?_ | refine WL.gyes rfl rfl rfl rfl (Yld.quo rfl rfl (by omega) (by omega) (by simp only [In]; omega)) ?_ | refine WL.gyes rfl rfl rfl rfl (Yld.rem rfl rfl (by omega) (by omega)) ?_ | refine WL.gyes rfl rfl rfl rfl (Yld.shl rfl rfl (by omega)) ?_ | refine WL.gyes rfl rfl rfl rfl (Yld.shr rfl rfl (by omega)) ?_ | refine WL.gyes rfl rfl rfl rfl (Yld.pure tab_ok rfl) ?_ | refine WL.gyes rfl rfl rfl rfl (Yld.fld flds_ok rfl rfl rfl) ?_ | refine WL.gyes rfl rfl rfl rfl (Yld.max2 rfl rfl) ?_ | refine WL.gyes rfl rfl rfl rfl (Yld.min2 rfl rfl) ?_ | refine WL.gyes rfl rfl rfl rfl (Yld.pickV rfl rfl rfl) ?_ | refine WL.gun rfl rfl rfl rfl ?_)
  have hBb16 := hBb.keep hg16 (by simp)
  refine WL.gyes rfl rfl rfl rfl (Yld.bagg (vs := [b1, b2]) tab_ok hBb16 rfl rfl rfl rfl) ?_
  refine WL.callw (wants_some rfl rfl rfl) rfl rfl (text_fn _ 1 (3 + 4) w16 (hNb15.grown hg16) (by omega)) ?_
  rintro _ w17 ⟨rfl, hg17⟩
  rw [txt_1]
  repeat (first | refine WC.seq ?_ | refine WC.block ?_ | refine WC.region ?_ | refine WL.nil ?_ | refine WX.then_normal ?_ | refine WC.skip ?_ | refine WC.exit ?_ | refine WC.ret ?_ | refine WX.then_exit ?_ | refine WX.then_ret ?_ | refine WX.block_normal ?_ | refine WX.block_ret ?_ | refine WX.block_same ?_ | refine WX.block_other rfl ?_ | refine WC.label ?_ | refine WC.scope ?_ | refine WX.scope_normal ?_ | refine WX.scope_ret ?_ | refine WX.scope_exit ?_ | refine WL.y rfl (Yld.add rfl rfl (by simp only [In]; omega)) ?_ | refine WL.y rfl (Yld.sub rfl rfl (by simp only [In]; omega)) ?_ | refine WL.y rfl (Yld.mul rfl rfl (by simp only [In]; omega)) ?_ | refine WL.y rfl (Yld.convB tab_ok rfl rfl rfl rfl) ?_ | refine WL.y rfl (Yld.conv tab_ok rfl rfl rfl (by simp only [In]; omega)) ?_ | refine WL.y rfl (Yld.quo rfl rfl (by omega) (by omega) (by simp only [In]; omega)) ?_ | refine WL.y rfl (Yld.rem rfl rfl (by omega) (by omega)) ?_ | refine WL.y rfl (Yld.shl rfl rfl (by omega)) ?_ | refine WL.y rfl (Yld.shr rfl rfl (by omega)) ?_ | refine WL.y rfl (Yld.pure tab_ok rfl) ?_ | refine WL.y rfl (Yld.fld flds_ok rfl rfl rfl) ?_ | refine WL.y rfl (Yld.max2 rfl rfl) ?_ | refine WL.y rfl (Yld.min2 rfl rfl) ?_ | refine WL.y rfl (Yld.pickV rfl rfl rfl) ?_ | refine WL.gno rfl rfl rfl rfl ?_ | refine WL.gyes rfl rfl rfl rfl (Yld.add rfl rfl (by simp only [In]; omega)) ?_ | refine WL.gyes rfl rfl rfl rfl (Yld.sub rfl rfl (by simp only [In]; omega)) ?_ | refine WL.gyes rfl rfl rfl rfl (Yld.mul rfl rfl (by simp only [In]; omega)) ?_ | refine WL.gyes rfl rfl rfl rfl (Yld.convB tab_ok rfl rfl rfl rfl) ?_ | refine WL.gyes rfl rfl rfl rfl (Yld.conv tab_ok rfl rfl rfl (by simp only [In]; omega)) ?_ | refine WL.gyes rfl rfl rfl rfl (Yld.quo rfl rfl (by omega) (by omega) (by simp only [In]; omega)) ?_ | refine WL.gyes rfl rfl rfl rfl (Yld.rem rfl rfl (by omega) (by omega)) ?_ | refine WL.gyes rfl rfl rfl rfl (Yld.shl rfl rfl (by omega)) ?_ | refine WL.gyes rfl rfl rfl rfl (Yld.shr rfl rfl (by omega)) ?_ | refine WL.gyes rfl rfl rfl rfl (Yld.pure tab_ok rfl) ?_ | refine WL.gyes rfl rfl rfl rfl (Yld.fld flds_ok rfl rfl rfl) ?_ | refine WL.gyes rfl rfl rfl rfl (Yld.max2 rfl rfl) ?_ | refine WL.gyes rfl rfl rfl rfl (Yld.min2 rfl rfl) ?_ | refine WL.gyes rfl rfl rfl rfl (Yld.pickV rfl rfl rfl) ?_ | refine WL.gun rfl rfl rfl rfl ?_)
  have hBc17 := (hB315.keep hg16 (by simp)).keep hg17 (by simp)
  refine WL.gyes rfl rfl rfl rfl (Yld.bagg (vs := [c1, c2]) tab_ok hBc17 rfl rfl rfl rfl) ?_
  refine WL.callw (wants_some rfl rfl rfl) rfl rfl (text_fn _ (-1) (3 + 4) w17 ((hNc15.grown hg16).grown hg17) (by omega)) ?_
  rintro _ w18 ⟨rfl, hg18⟩
  rw [txt_m1]
  repeat (first | refine WC.seq ?_ | refine WC.block ?_ | refine WC.region ?_ | refine WL.nil ?_ | refine WX.then_normal ?_ | refine WC.skip ?_ | refine WC.exit ?_ | refine WC.ret ?_ | refine WX.then_exit ?_ | refine WX.then_ret ?_ | refine WX.block_normal ?_ | refine WX.block_ret ?_ | refine WX.block_same ?_ | refine WX.block_other rfl ?_ | refine WC.label ?_ | refine WC.scope ?_ | refine WX.scope_normal ?_ | refine WX.scope_ret ?_ | refine WX.scope_exit ?_ | refine WL.y rfl (Yld.add rfl rfl (by simp only [In]; omega)) ?_ | refine WL.y rfl (Yld.sub rfl rfl (by simp only [In]; omega)) ?_ | refine WL.y rfl (Yld.mul rfl rfl (by simp only [In]; omega)) ?_ | refine WL.y rfl (Yld.convB tab_ok rfl rfl rfl rfl) ?_ | refine WL.y rfl (Yld.conv tab_ok rfl rfl rfl (by simp only [In]; omega)) ?_ | refine WL.y rfl (Yld.quo rfl rfl (by omega) (by omega) (by simp only [In]; omega)) ?_ | refine WL.y rfl (Yld.rem rfl rfl (by omega) (by omega)) ?_ | refine WL.y rfl (Yld.shl rfl rfl (by omega)) ?_ | refine WL.y rfl (Yld.shr rfl rfl (by omega)) ?_ | refine WL.y rfl (Yld.pure tab_ok rfl) ?_ | refine WL.y rfl (Yld.fld flds_ok rfl rfl rfl) ?_ | refine WL.y rfl (Yld.max2 rfl rfl) ?_ | refine WL.y rfl (Yld.min2 rfl rfl) ?_ | refine WL.y rfl (Yld.pickV rfl rfl rfl) ?_ | refine WL.gno rfl rfl rfl rfl ?_ | refine WL.gyes rfl rfl rfl rfl (Yld.add rfl rfl (by simp only [In]; omega)) ?_ | refine WL.gyes rfl rfl rfl rfl (Yld.sub rfl rfl (by simp only [In]; omega)) ?_ | refine WL.gyes rfl rfl rfl rfl (Yld.mul rfl rfl (by simp only [In]; omega)) ?_ | refine WL.gyes rfl rfl rfl rfl (Yld.convB tab_ok rfl rfl rfl rfl) ?_ | refine WL.gyes rfl rfl rfl rfl (Yld.conv tab_ok rfl rfl rfl (by simp only [In]; omega)) ?_ | refine WL.gyes rfl rfl rfl rfl (Yld.quo rfl rfl (by omega) (by omega) (by simp only [In]; omega)) ?_ | refine WL.gyes rfl rfl rfl rfl (Yld.rem rfl rfl (by omega) (by omega)) ?_ | refine WL.gyes rfl rfl rfl rfl (Yld.shl rfl rfl (by omega)) ?_ | refine WL.gyes rfl rfl rfl rfl (Yld.shr rfl rfl (by omega)) ?_ | refine WL.gyes rfl rfl rfl rfl (Yld.pure tab_ok rfl) ?_ | refine WL.gyes rfl rfl rfl rfl (Yld.fld flds_ok rfl rfl rfl) ?_ | refine WL.gyes rfl rfl rfl rfl (Yld.max2 rfl rfl) ?_ | refine WL.gyes rfl rfl rfl rfl (Yld.min2 rfl rfl) ?_ | refine WL.gyes rfl rfl rfl rfl (Yld.pickV rfl rfl rfl) ?_ | refine WL.gun rfl rfl rfl rfl ?_)
  exact WX.ret1 rfl rfl ⟨rfl, gr_trans (gr_trans (gr_trans hg015 hg16) hg17) hg18⟩
end Go.Proofs.YtilphcippnfklaaDoor
 namespace Go.Proofs.YtilphcippnfklaaDoor
open Go Go.RowKit
attribute [local irreducible] WL WC WX WQ WK WJ Yld Eff Ef0 Fn
theorem WL.mid {P : Program} {N : Nat} {ops : Array Oper} {Q : Post} {L : Slots} {w : World} {l : List Oper} (L' : Slots) (h1 : ∀ Q' : Post, WX N Q' .normal L' w → WL P N ops Q' l L w) (h2 : WX N Q .normal L' w) : WL P N ops Q l L w := h1 Q h2
theorem cell_grown' {w w' : World} {p : Addr} {v : Value} {row : Option Nat} (hg : w.grownBy w' row) (h : w.cell? p = some v) (hr : row ≠ some p.block) : w'.cell? p = some v := by
  have hlt := World.block_lt_of_cell? w _ h
  have := hg.block p.block hlt (fun e => hr e.symm)
  unfold World.cell? at h ⊢
  rw [this]
  exact h
theorem take_pushB (t : List UInt8) (i : Nat) (h : i < t.length) : t.take (i + 1) = t.take i ++ [t.getD i 0] := by
  rw [List.take_succ_eq_append_getElem h]; simp [List.getD, h]
theorem dig_at {t : List UInt8} (h : t.all digB = true) (i : Nat) (hi : i < t.length) : 48 ≤ (t.getD i 0).toNat ∧ (t.getD i 0).toNat ≤ 57 := by
  have := List.all_eq_true.1 h (t.getD i 0) (by simp [List.getD, hi])
  exact of_decide_eq_true this
set_option maxHeartbeats 4000000 in
theorem nparse_fn (s : List UInt8) (E EL : Value) (w : World) (hs : s.length ≤ maxLen) (hE : w.cell? ⟨0, 0, none⟩ = some E) (hEL : w.cell? ⟨1, 0, none⟩ = some EL) :
    Fn Tryd.prog 21 ⟨[vs s]⟩ w fun v w' => ((shape s = true ∧ (cutm s).length ≤ 2400 ∧ ∃ a, v = .tuple #[a, .nilIface] ∧ Nm w' a (sval s) (cutm s).length) ∨ ((shape s = false ∨ 2400 < (cutm s).length) ∧ v = .tuple #[.agg ⟨[.bool false, .slice none 0 0]⟩, if shape s then EL else E])) ∧ w.grownBy w' none := by
  have hs' := hs
  simp only [maxLen] at hs'
  refine Fn.enter (by kernel_rfl) Tryd.func21 rfl Tryd.ntmps21 rfl ?_
  repeat (first | refine WC.seq ?_ | refine WC.block ?_ | refine WC.region ?_ | refine WL.nil ?_ | refine WX.then_normal ?_ | refine WC.skip ?_ | refine WC.exit ?_ | refine WC.ret ?_ | refine WX.then_exit ?_ | refine WX.then_ret ?_ | refine WX.block_normal ?_ | refine WX.block_ret ?_ | refine WX.block_same ?_ | refine WX.block_other rfl ?_ | refine WC.label ?_ | refine WC.scope ?_ | refine WX.scope_normal ?_ | refine WX.scope_ret ?_ | refine WX.scope_exit ?_ | refine WL.y rfl (Yld.add rfl rfl (by simp only [In]; omega)) ?_ | refine WL.y rfl (Yld.sub rfl rfl (by simp only [In]; omega)) ?_ | refine WL.y rfl (Yld.mul rfl rfl (by simp only [In]; omega)) ?_ | refine WL.y rfl (Yld.convB tab_ok rfl rfl rfl rfl) ?_ | refine WL.y rfl (Yld.conv tab_ok rfl rfl rfl (by simp only [In]; omega)) ?_ | refine WL.y rfl (Yld.pure tab_ok rfl) ?_ | refine WL.y rfl (Yld.max2 rfl rfl) ?_ | refine WL.y rfl (Yld.pickV rfl rfl rfl) ?_ | refine WL.gno rfl rfl rfl rfl ?_ | refine WL.gyes rfl rfl rfl rfl (Yld.pure tab_ok rfl) ?_ | refine WL.gyes rfl rfl rfl rfl (Yld.pickV rfl rfl rfl) ?_ | refine WL.gun rfl rfl rfl rfl ?_)
  refine WL.alloc rfl zero44 (fun g1 w1 hB1 hg1 hl1 => ?_)
  have hE1 := cell_grown' hg1 hE (by simp)
  have hEL1 := cell_grown' hg1 hEL (by simp)
  have hlt1 := World.block_lt_of_cell? w _ hE
  have hlt2 := World.block_lt_of_cell? w _ hEL
  simp only at hlt1 hlt2
  repeat (first | refine WC.seq ?_ | refine WC.block ?_ | refine WC.region ?_ | refine WL.nil ?_ | refine WX.then_normal ?_ | refine WC.skip ?_ | refine WC.exit ?_ | refine WC.ret ?_ | refine WX.then_exit ?_ | refine WX.then_ret ?_ | refine WX.block_normal ?_ | refine WX.block_ret ?_ | refine WX.block_same ?_ | refine WX.block_other rfl ?_ | refine WC.label ?_ | refine WC.scope ?_ | refine WX.scope_normal ?_ | refine WX.scope_ret ?_ | refine WX.scope_exit ?_ | refine WL.y rfl (Yld.add rfl rfl (by simp only [In]; omega)) ?_ | refine WL.y rfl (Yld.sub rfl rfl (by simp only [In]; omega)) ?_ | refine WL.y rfl (Yld.mul rfl rfl (by simp only [In]; omega)) ?_ | refine WL.y rfl (Yld.convB tab_ok rfl rfl rfl rfl) ?_ | refine WL.y rfl (Yld.conv tab_ok rfl rfl rfl (by simp only [In]; omega)) ?_ | refine WL.y rfl (Yld.pure tab_ok rfl) ?_ | refine WL.y rfl (Yld.max2 rfl rfl) ?_ | refine WL.y rfl (Yld.pickV rfl rfl rfl) ?_ | refine WL.gno rfl rfl rfl rfl ?_ | refine WL.gyes rfl rfl rfl rfl (Yld.pure tab_ok rfl) ?_ | refine WL.gyes rfl rfl rfl rfl (Yld.pickV rfl rfl rfl) ?_ | refine WL.gun rfl rfl rfl rfl ?_)
  refine WL.call rfl rfl (scutPrefix_fn s [45] w1 hs) ?_
  rintro _ w2 ⟨rfl, hw⟩
  have hw2 := hw.symm
  subst hw2
  have hcut : (if isPre [45] s then s.drop ([45] : List UInt8).length else s) = cutm s := rfl
  rw [hcut]
  have htl : (cutm s).length ≤ s.length := by unfold cutm; split <;> simp
  have hshape : shape s = (!lead (cutm s) (isPre [45] s) && (cutm s).all digB) := rfl
  have hsval : sval s = bif isPre [45] s then -(dval (cutm s) : Int) else (dval (cutm s) : Int) := rfl
  generalize cutm s = t at *
  generalize isPre [45] s = neg at *
  rw [hshape, hsval]
  clear hshape hsval hcut
  repeat (first | refine WC.seq ?_ | refine WC.block ?_ | refine WC.region ?_ | refine WL.nil ?_ | refine WX.then_normal ?_ | refine WC.skip ?_ | refine WC.exit ?_ | refine WC.ret ?_ | refine WX.then_exit ?_ | refine WX.then_ret ?_ | refine WX.block_normal ?_ | refine WX.block_ret ?_ | refine WX.block_same ?_ | refine WX.block_other rfl ?_ | refine WC.label ?_ | refine WC.scope ?_ | refine WX.scope_normal ?_ | refine WX.scope_ret ?_ | refine WX.scope_exit ?_ | refine WL.y rfl (Yld.add rfl rfl (by simp only [In]; omega)) ?_ | refine WL.y rfl (Yld.sub rfl rfl (by simp only [In]; omega)) ?_ | refine WL.y rfl (Yld.mul rfl rfl (by simp only [In]; omega)) ?_ | refine WL.y rfl (Yld.convB tab_ok rfl rfl rfl rfl) ?_ | refine WL.y rfl (Yld.conv tab_ok rfl rfl rfl (by simp only [In]; omega)) ?_ | refine WL.y rfl (Yld.pure tab_ok rfl) ?_ | refine WL.y rfl (Yld.max2 rfl rfl) ?_ | refine WL.y rfl (Yld.pickV rfl rfl rfl) ?_ | refine WL.gno rfl rfl rfl rfl ?_ | refine WL.gyes rfl rfl rfl rfl (Yld.pure tab_ok rfl) ?_ | refine WL.gyes rfl rfl rfl rfl (Yld.pickV rfl rfl rfl) ?_ | refine WL.gun rfl rfl rfl rfl ?_)
  refine WL.mid [(30, .bool (lead t neg)), (2, .pointer (some ⟨g1, 0, none⟩)), (4, vs t), (5, .bool neg)] (fun Q' hQ => ?_) ?_
  · by_cases ht : t = []
    · have e : decide (t = []) = true := decide_eq_true ht
      have el : lead t neg = true := decide_eq_true (.inl ht)
      rw [e]
      rw [el] at hQ
      repeat (first | refine WC.seq ?_ | refine WC.block ?_ | refine WC.region ?_ | refine WL.nil ?_ | refine WX.then_normal ?_ | refine WC.skip ?_ | refine WC.exit ?_ | refine WC.ret ?_ | refine WX.then_exit ?_ | refine WX.then_ret ?_ | refine WX.block_normal ?_ | refine WX.block_ret ?_ | refine WX.block_same ?_ | refine WX.block_other rfl ?_ | refine WC.label ?_ | refine WC.scope ?_ | refine WX.scope_normal ?_ | refine WX.scope_ret ?_ | refine WX.scope_exit ?_ | refine WL.y rfl (Yld.add rfl rfl (by simp only [In]; omega)) ?_ | refine WL.y rfl (Yld.sub rfl rfl (by simp only [In]; omega)) ?_ | refine WL.y rfl (Yld.mul rfl rfl (by simp only [In]; omega)) ?_ | refine WL.y rfl (Yld.convB tab_ok rfl rfl rfl rfl) ?_ | refine WL.y rfl (Yld.conv tab_ok rfl rfl rfl (by simp only [In]; omega)) ?_ | refine WL.y rfl (Yld.pure tab_ok rfl) ?_ | refine WL.y rfl (Yld.max2 rfl rfl) ?_ | refine WL.y rfl (Yld.pickV rfl rfl rfl) ?_ | refine WL.gno rfl rfl rfl rfl ?_ | refine WL.gyes rfl rfl rfl rfl (Yld.pure tab_ok rfl) ?_ | refine WL.gyes rfl rfl rfl rfl (Yld.pickV rfl rfl rfl) ?_ | refine WL.gun rfl rfl rfl rfl ?_)
      exact WX.weaken (by repeat (first | exact Sub.nil | refine Sub.cons rfl ?_)) hQ
    · have e : decide (t = []) = false := decide_eq_false ht
      have hpos : 0 < t.length := List.length_pos_iff.mpr ht
      rw [e]
      repeat (first | refine WL.gyes rfl rfl rfl rfl (Yld.sidx tab_ok rfl rfl rfl (by omega) (by omega)) ?_ | refine WC.seq ?_ | refine WC.block ?_ | refine WC.region ?_ | refine WL.nil ?_ | refine WX.then_normal ?_ | refine WC.skip ?_ | refine WC.exit ?_ | refine WC.ret ?_ | refine WX.then_exit ?_ | refine WX.then_ret ?_ | refine WX.block_normal ?_ | refine WX.block_ret ?_ | refine WX.block_same ?_ | refine WX.block_other rfl ?_ | refine WC.label ?_ | refine WC.scope ?_ | refine WX.scope_normal ?_ | refine WX.scope_ret ?_ | refine WX.scope_exit ?_ | refine WL.y rfl (Yld.add rfl rfl (by simp only [In]; omega)) ?_ | refine WL.y rfl (Yld.sub rfl rfl (by simp only [In]; omega)) ?_ | refine WL.y rfl (Yld.mul rfl rfl (by simp only [In]; omega)) ?_ | refine WL.y rfl (Yld.convB tab_ok rfl rfl rfl rfl) ?_ | refine WL.y rfl (Yld.conv tab_ok rfl rfl rfl (by simp only [In]; omega)) ?_ | refine WL.y rfl (Yld.pure tab_ok rfl) ?_ | refine WL.y rfl (Yld.max2 rfl rfl) ?_ | refine WL.y rfl (Yld.pickV rfl rfl rfl) ?_ | refine WL.gno rfl rfl rfl rfl ?_ | refine WL.gyes rfl rfl rfl rfl (Yld.pure tab_ok rfl) ?_ | refine WL.gyes rfl rfl rfl rfl (Yld.pickV rfl rfl rfl) ?_ | refine WL.gun rfl rfl rfl rfl ?_)
      rw [show ((0 : Int)).toNat = 0 by rfl]
      by_cases h48 : t.getD 0 0 = 48
      · have e2 : decide (((t.getD 0 0).toNat : Int) = 48) = true := by rw [h48]; rfl
        rw [e2]
        by_cases h1 : 1 < t.length
        · have e3 : decide ((1 : Int) < (t.length : Int)) = true := decide_eq_true (by omega)
          have el : lead t neg = true := decide_eq_true (.inr ⟨h48, .inl h1⟩)
          rw [el] at hQ
          repeat (first | refine WC.seq ?_ | refine WC.block ?_ | refine WC.region ?_ | refine WL.nil ?_ | refine WX.then_normal ?_ | refine WC.skip ?_ | refine WC.exit ?_ | refine WC.ret ?_ | refine WX.then_exit ?_ | refine WX.then_ret ?_ | refine WX.block_normal ?_ | refine WX.block_ret ?_ | refine WX.block_same ?_ | refine WX.block_other rfl ?_ | refine WC.label ?_ | refine WC.scope ?_ | refine WX.scope_normal ?_ | refine WX.scope_ret ?_ | refine WX.scope_exit ?_ | refine WL.y rfl (Yld.add rfl rfl (by simp only [In]; omega)) ?_ | refine WL.y rfl (Yld.sub rfl rfl (by simp only [In]; omega)) ?_ | refine WL.y rfl (Yld.mul rfl rfl (by simp only [In]; omega)) ?_ | refine WL.y rfl (Yld.convB tab_ok rfl rfl rfl rfl) ?_ | refine WL.y rfl (Yld.conv tab_ok rfl rfl rfl (by simp only [In]; omega)) ?_ | refine WL.y rfl (Yld.pure tab_ok rfl) ?_ | refine WL.y rfl (Yld.max2 rfl rfl) ?_ | refine WL.y rfl (Yld.pickV rfl rfl rfl) ?_ | refine WL.gno rfl rfl rfl rfl ?_ | refine WL.gyes rfl rfl rfl rfl (Yld.pure tab_ok rfl) ?_ | refine WL.gyes rfl rfl rfl rfl (Yld.pickV rfl rfl rfl) ?_ | refine WL.gun rfl rfl rfl rfl ?_ | rw [e3])
          exact WX.weaken (by repeat (first | exact Sub.nil | refine Sub.cons rfl ?_)) hQ
        · have e3 : decide ((1 : Int) < (t.length : Int)) = false := decide_eq_false (by omega)
          have el : lead t neg = neg := by
            unfold lead
            cases neg
            · exact decide_eq_false (fun h => by rcases h with h | ⟨_, h | h⟩ <;> first | exact ht h | omega | cases h)
            · exact decide_eq_true (.inr ⟨h48, .inr rfl⟩)
          rw [el] at hQ
          repeat (first | refine WC.seq ?_ | refine WC.block ?_ | refine WC.region ?_ | refine WL.nil ?_ | refine WX.then_normal ?_ | refine WC.skip ?_ | refine WC.exit ?_ | refine WC.ret ?_ | refine WX.then_exit ?_ | refine WX.then_ret ?_ | refine WX.block_normal ?_ | refine WX.block_ret ?_ | refine WX.block_same ?_ | refine WX.block_other rfl ?_ | refine WC.label ?_ | refine WC.scope ?_ | refine WX.scope_normal ?_ | refine WX.scope_ret ?_ | refine WX.scope_exit ?_ | refine WL.y rfl (Yld.add rfl rfl (by simp only [In]; omega)) ?_ | refine WL.y rfl (Yld.sub rfl rfl (by simp only [In]; omega)) ?_ | refine WL.y rfl (Yld.mul rfl rfl (by simp only [In]; omega)) ?_ | refine WL.y rfl (Yld.convB tab_ok rfl rfl rfl rfl) ?_ | refine WL.y rfl (Yld.conv tab_ok rfl rfl rfl (by simp only [In]; omega)) ?_ | refine WL.y rfl (Yld.pure tab_ok rfl) ?_ | refine WL.y rfl (Yld.max2 rfl rfl) ?_ | refine WL.y rfl (Yld.pickV rfl rfl rfl) ?_ | refine WL.gno rfl rfl rfl rfl ?_ | refine WL.gyes rfl rfl rfl rfl (Yld.pure tab_ok rfl) ?_ | refine WL.gyes rfl rfl rfl rfl (Yld.pickV rfl rfl rfl) ?_ | refine WL.gun rfl rfl rfl rfl ?_ | rw [e3])
          exact WX.weaken (by repeat (first | exact Sub.nil | refine Sub.cons rfl ?_)) hQ
      · have e2 : decide (((t.getD 0 0).toNat : Int) = 48) = false := decide_eq_false (fun e => h48 (UInt8.toNat_inj.mp (by have : (48 : UInt8).toNat = 48 := rfl; omega)))
        have el : lead t neg = false := decide_eq_false (fun h => by rcases h with h | ⟨h, _⟩ <;> first | exact ht h | exact h48 h)
        rw [el] at hQ
        repeat (first | refine WC.seq ?_ | refine WC.block ?_ | refine WC.region ?_ | refine WL.nil ?_ | refine WX.then_normal ?_ | refine WC.skip ?_ | refine WC.exit ?_ | refine WC.ret ?_ | refine WX.then_exit ?_ | refine WX.then_ret ?_ | refine WX.block_normal ?_ | refine WX.block_ret ?_ | refine WX.block_same ?_ | refine WX.block_other rfl ?_ | refine WC.label ?_ | refine WC.scope ?_ | refine WX.scope_normal ?_ | refine WX.scope_ret ?_ | refine WX.scope_exit ?_ | refine WL.y rfl (Yld.add rfl rfl (by simp only [In]; omega)) ?_ | refine WL.y rfl (Yld.sub rfl rfl (by simp only [In]; omega)) ?_ | refine WL.y rfl (Yld.mul rfl rfl (by simp only [In]; omega)) ?_ | refine WL.y rfl (Yld.convB tab_ok rfl rfl rfl rfl) ?_ | refine WL.y rfl (Yld.conv tab_ok rfl rfl rfl (by simp only [In]; omega)) ?_ | refine WL.y rfl (Yld.pure tab_ok rfl) ?_ | refine WL.y rfl (Yld.max2 rfl rfl) ?_ | refine WL.y rfl (Yld.pickV rfl rfl rfl) ?_ | refine WL.gno rfl rfl rfl rfl ?_ | refine WL.gyes rfl rfl rfl rfl (Yld.pure tab_ok rfl) ?_ | refine WL.gyes rfl rfl rfl rfl (Yld.pickV rfl rfl rfl) ?_ | refine WL.gun rfl rfl rfl rfl ?_ | rw [e2])
        exact WX.weaken (by repeat (first | exact Sub.nil | refine Sub.cons rfl ?_)) hQ
  repeat (first | refine WC.seq ?_ | refine WC.block ?_ | refine WC.region ?_ | refine WL.nil ?_ | refine WX.then_normal ?_ | refine WC.skip ?_ | refine WC.exit ?_ | refine WC.ret ?_ | refine WX.then_exit ?_ | refine WX.then_ret ?_ | refine WX.block_normal ?_ | refine WX.block_ret ?_ | refine WX.block_same ?_ | refine WX.block_other rfl ?_ | refine WC.label ?_ | refine WC.scope ?_ | refine WX.scope_normal ?_ | refine WX.scope_ret ?_ | refine WX.scope_exit ?_ | refine WL.y rfl (Yld.add rfl rfl (by simp only [In]; omega)) ?_ | refine WL.y rfl (Yld.sub rfl rfl (by simp only [In]; omega)) ?_ | refine WL.y rfl (Yld.mul rfl rfl (by simp only [In]; omega)) ?_ | refine WL.y rfl (Yld.convB tab_ok rfl rfl rfl rfl) ?_ | refine WL.y rfl (Yld.conv tab_ok rfl rfl rfl (by simp only [In]; omega)) ?_ | refine WL.y rfl (Yld.pure tab_ok rfl) ?_ | refine WL.y rfl (Yld.max2 rfl rfl) ?_ | refine WL.y rfl (Yld.pickV rfl rfl rfl) ?_ | refine WL.gno rfl rfl rfl rfl ?_ | refine WL.gyes rfl rfl rfl rfl (Yld.pure tab_ok rfl) ?_ | refine WL.gyes rfl rfl rfl rfl (Yld.pickV rfl rfl rfl) ?_ | refine WL.gun rfl rfl rfl rfl ?_)
  refine WC.cond rfl (fun h => ?_) (fun h => ?_)
  · repeat (first | refine WC.seq ?_ | refine WC.block ?_ | refine WC.region ?_ | refine WL.nil ?_ | refine WX.then_normal ?_ | refine WC.skip ?_ | refine WC.exit ?_ | refine WC.ret ?_ | refine WX.then_exit ?_ | refine WX.then_ret ?_ | refine WX.block_normal ?_ | refine WX.block_ret ?_ | refine WX.block_same ?_ | refine WX.block_other rfl ?_ | refine WC.label ?_ | refine WC.scope ?_ | refine WX.scope_normal ?_ | refine WX.scope_ret ?_ | refine WX.scope_exit ?_ | refine WL.y rfl (Yld.add rfl rfl (by simp only [In]; omega)) ?_ | refine WL.y rfl (Yld.sub rfl rfl (by simp only [In]; omega)) ?_ | refine WL.y rfl (Yld.mul rfl rfl (by simp only [In]; omega)) ?_ | refine WL.y rfl (Yld.convB tab_ok rfl rfl rfl rfl) ?_ | refine WL.y rfl (Yld.conv tab_ok rfl rfl rfl (by simp only [In]; omega)) ?_ | refine WL.y rfl (Yld.pure tab_ok rfl) ?_ | refine WL.y rfl (Yld.max2 rfl rfl) ?_ | refine WL.y rfl (Yld.pickV rfl rfl rfl) ?_ | refine WL.gno rfl rfl rfl rfl ?_ | refine WL.gyes rfl rfl rfl rfl (Yld.pure tab_ok rfl) ?_ | refine WL.gyes rfl rfl rfl rfl (Yld.pickV rfl rfl rfl) ?_ | refine WL.gun rfl rfl rfl rfl ?_)
    refine WC.chainJ (fun k => !(Nat.beq k 2)) (LD [1] (fun w' => w'.cell? ⟨0, 0, none⟩ = some E)) mixed (by kernel_rfl) (fun k w' h _ => (h.cell _).trans hE1) ?_
    refine WJ.y rfl rfl (fun w' _ => Yld.struct (us := [.bool false, .slice none 0 0]) zero44 places44 rfl rfl) ?_
    refine WJ.y rfl rfl (fun w' h => Yld.cell tab_ok (h rfl) rfl rfl) ?_
    refine WJ.eff rfl (Ef0.storeW (vs := [.bool false, .slice none 0 0]) tab_ok rfl rfl rfl (by intro u hu; simp at hu; rcases hu with rfl | rfl <;> rfl) hB1 rfl rfl) (fun w' h => DD.keep (cell_grown' h.2 hE1 (by simp; omega))) ?_
    rintro wz ⟨hBz, hgz⟩
    repeat (first | refine WJ.y rfl rfl (fun _ _ => Yld.add rfl rfl (by simp only [In]; omega)) ?_ | refine WJ.y rfl rfl (fun _ _ => Yld.sub rfl rfl (by simp only [In]; omega)) ?_ | refine WJ.y rfl rfl (fun _ _ => Yld.mul rfl rfl (by simp only [In]; omega)) ?_ | refine WJ.y rfl rfl (fun _ _ => Yld.convB tab_ok rfl rfl rfl rfl) ?_ | refine WJ.y rfl rfl (fun _ _ => Yld.conv tab_ok rfl rfl rfl (by simp only [In]; omega)) ?_ | refine WJ.y rfl rfl (fun _ _ => Yld.pure tab_ok rfl) ?_ | refine WJ.y rfl rfl (fun _ _ => Yld.max2 rfl rfl) ?_ | refine WJ.y rfl rfl (fun _ _ => Yld.pickV rfl rfl rfl) ?_ | refine WJ.no rfl rfl rfl rfl ?_ | refine WJ.gun rfl rfl rfl rfl ?_ | refine WJ.yw rfl (wants_some rfl rfl rfl) rfl (fun _ _ => Yld.add rfl rfl (by simp only [In]; omega)) ?_ | refine WJ.yw rfl (wants_some rfl rfl rfl) rfl (fun _ _ => Yld.sub rfl rfl (by simp only [In]; omega)) ?_ | refine WJ.yw rfl (wants_some rfl rfl rfl) rfl (fun _ _ => Yld.mul rfl rfl (by simp only [In]; omega)) ?_ | refine WJ.yw rfl (wants_some rfl rfl rfl) rfl (fun _ _ => Yld.convB tab_ok rfl rfl rfl rfl) ?_ | refine WJ.yw rfl (wants_some rfl rfl rfl) rfl (fun _ _ => Yld.conv tab_ok rfl rfl rfl (by simp only [In]; omega)) ?_ | refine WJ.yw rfl (wants_some rfl rfl rfl) rfl (fun _ _ => Yld.pure tab_ok rfl) ?_)
    refine WJ.nil ?_
    repeat (first | refine WC.seq ?_ | refine WC.block ?_ | refine WC.region ?_ | refine WL.nil ?_ | refine WX.then_normal ?_ | refine WC.skip ?_ | refine WC.exit ?_ | refine WC.ret ?_ | refine WX.then_exit ?_ | refine WX.then_ret ?_ | refine WX.block_normal ?_ | refine WX.block_ret ?_ | refine WX.block_same ?_ | refine WX.block_other rfl ?_ | refine WC.label ?_ | refine WC.scope ?_ | refine WX.scope_normal ?_ | refine WX.scope_ret ?_ | refine WX.scope_exit ?_ | refine WL.y rfl (Yld.add rfl rfl (by simp only [In]; omega)) ?_ | refine WL.y rfl (Yld.sub rfl rfl (by simp only [In]; omega)) ?_ | refine WL.y rfl (Yld.mul rfl rfl (by simp only [In]; omega)) ?_ | refine WL.y rfl (Yld.convB tab_ok rfl rfl rfl rfl) ?_ | refine WL.y rfl (Yld.conv tab_ok rfl rfl rfl (by simp only [In]; omega)) ?_ | refine WL.y rfl (Yld.pure tab_ok rfl) ?_ | refine WL.y rfl (Yld.max2 rfl rfl) ?_ | refine WL.y rfl (Yld.pickV rfl rfl rfl) ?_ | refine WL.gno rfl rfl rfl rfl ?_ | refine WL.gyes rfl rfl rfl rfl (Yld.pure tab_ok rfl) ?_ | refine WL.gyes rfl rfl rfl rfl (Yld.pickV rfl rfl rfl) ?_ | refine WL.gun rfl rfl rfl rfl ?_)
    exact WX.retct tab_ok rfl rfl rfl hBz rfl rfl ⟨.inr ⟨.inl (by rw [h]; rfl), by rw [h]; rfl⟩, gr_new hg1 hgz hl1⟩
  · rw [h]
    repeat (first | refine WC.seq ?_ | refine WC.block ?_ | refine WC.region ?_ | refine WL.nil ?_ | refine WX.then_normal ?_ | refine WC.skip ?_ | refine WC.exit ?_ | refine WC.ret ?_ | refine WX.then_exit ?_ | refine WX.then_ret ?_ | refine WX.block_normal ?_ | refine WX.block_ret ?_ | refine WX.block_same ?_ | refine WX.block_other rfl ?_ | refine WC.label ?_ | refine WC.scope ?_ | refine WX.scope_normal ?_ | refine WX.scope_ret ?_ | refine WX.scope_exit ?_ | refine WL.y rfl (Yld.add rfl rfl (by simp only [In]; omega)) ?_ | refine WL.y rfl (Yld.sub rfl rfl (by simp only [In]; omega)) ?_ | refine WL.y rfl (Yld.mul rfl rfl (by simp only [In]; omega)) ?_ | refine WL.y rfl (Yld.convB tab_ok rfl rfl rfl rfl) ?_ | refine WL.y rfl (Yld.conv tab_ok rfl rfl rfl (by simp only [In]; omega)) ?_ | refine WL.y rfl (Yld.pure tab_ok rfl) ?_ | refine WL.y rfl (Yld.max2 rfl rfl) ?_ | refine WL.y rfl (Yld.pickV rfl rfl rfl) ?_ | refine WL.gno rfl rfl rfl rfl ?_ | refine WL.gyes rfl rfl rfl rfl (Yld.pure tab_ok rfl) ?_ | refine WL.gyes rfl rfl rfl rfl (Yld.pickV rfl rfl rfl) ?_ | refine WL.gun rfl rfl rfl rfl ?_)
    refine WC.loop (S := Nat) (fun i => t.length - i) (fun i => [(35, vi i), (34, .int .i64 (t.length : Int)), (2, .pointer (some ⟨g1, 0, none⟩)), (4, vs t), (5, .bool neg)])
      (fun i w2 => i ≤ t.length ∧ (t.take i).all digB = true ∧ w2 = w1) 0 ⟨by omega, by simp, rfl⟩ (by repeat (first | exact Sub.nil | refine Sub.cons rfl ?_)) (fun i w2 ⟨hi, hd, hw2⟩ => ?_)
    subst hw2
    repeat (first | refine WC.seq ?_ | refine WC.block ?_ | refine WC.region ?_ | refine WL.nil ?_ | refine WX.then_normal ?_ | refine WC.skip ?_ | refine WC.exit ?_ | refine WC.ret ?_ | refine WX.then_exit ?_ | refine WX.then_ret ?_ | refine WX.block_normal ?_ | refine WX.block_ret ?_ | refine WX.block_same ?_ | refine WX.block_other rfl ?_ | refine WC.label ?_ | refine WC.scope ?_ | refine WX.scope_normal ?_ | refine WX.scope_ret ?_ | refine WX.scope_exit ?_ | refine WL.y rfl (Yld.add rfl rfl (by simp only [In]; omega)) ?_ | refine WL.y rfl (Yld.sub rfl rfl (by simp only [In]; omega)) ?_ | refine WL.y rfl (Yld.mul rfl rfl (by simp only [In]; omega)) ?_ | refine WL.y rfl (Yld.convB tab_ok rfl rfl rfl rfl) ?_ | refine WL.y rfl (Yld.conv tab_ok rfl rfl rfl (by simp only [In]; omega)) ?_ | refine WL.y rfl (Yld.pure tab_ok rfl) ?_ | refine WL.y rfl (Yld.max2 rfl rfl) ?_ | refine WL.y rfl (Yld.pickV rfl rfl rfl) ?_ | refine WL.gno rfl rfl rfl rfl ?_ | refine WL.gyes rfl rfl rfl rfl (Yld.pure tab_ok rfl) ?_ | refine WL.gyes rfl rfl rfl rfl (Yld.pickV rfl rfl rfl) ?_ | refine WL.gun rfl rfl rfl rfl ?_)
    refine WC.cond rfl (fun hc => ?_) (fun hc => ?_)
    · simp only [decide_eq_true_eq] at hc
      have hpu := take_pushB t i (by omega)
      repeat (first | refine WL.y rfl (Yld.sidxN tab_ok rfl rfl rfl (by omega)) ?_ | refine WC.seq ?_ | refine WC.block ?_ | refine WC.region ?_ | refine WL.nil ?_ | refine WX.then_normal ?_ | refine WC.skip ?_ | refine WC.exit ?_ | refine WC.ret ?_ | refine WX.then_exit ?_ | refine WX.then_ret ?_ | refine WX.block_normal ?_ | refine WX.block_ret ?_ | refine WX.block_same ?_ | refine WX.block_other rfl ?_ | refine WC.label ?_ | refine WC.scope ?_ | refine WX.scope_normal ?_ | refine WX.scope_ret ?_ | refine WX.scope_exit ?_ | refine WL.y rfl (Yld.add rfl rfl (by simp only [In]; omega)) ?_ | refine WL.y rfl (Yld.sub rfl rfl (by simp only [In]; omega)) ?_ | refine WL.y rfl (Yld.mul rfl rfl (by simp only [In]; omega)) ?_ | refine WL.y rfl (Yld.convB tab_ok rfl rfl rfl rfl) ?_ | refine WL.y rfl (Yld.conv tab_ok rfl rfl rfl (by simp only [In]; omega)) ?_ | refine WL.y rfl (Yld.pure tab_ok rfl) ?_ | refine WL.y rfl (Yld.max2 rfl rfl) ?_ | refine WL.y rfl (Yld.pickV rfl rfl rfl) ?_ | refine WL.gno rfl rfl rfl rfl ?_ | refine WL.gyes rfl rfl rfl rfl (Yld.pure tab_ok rfl) ?_ | refine WL.gyes rfl rfl rfl rfl (Yld.pickV rfl rfl rfl) ?_ | refine WL.gun rfl rfl rfl rfl ?_)
      have hall : digB (t.getD i 0) = false → t.all digB = false := fun e => by
        rw [List.all_eq_false]
        exact ⟨t.getD i 0, by simp [List.getD, (by omega : i < t.length)], by rw [e]; simp⟩
      refine WL.mid [(47, .bool (!digB (t.getD i 0))), (35, vi i), (34, .int .i64 (t.length : Int)), (2, .pointer (some ⟨g1, 0, none⟩)), (4, vs t), (5, .bool neg)] (fun Q' hQ => ?_) ?_
      · by_cases h1 : (t.getD i 0).toNat < 48
        · have e1 : decide (((t.getD i 0).toNat : Int) < 48) = true := decide_eq_true (by omega)
          have el : digB (t.getD i 0) = false := decide_eq_false (by omega)
          rw [el] at hQ
          repeat (first | refine WC.seq ?_ | refine WC.block ?_ | refine WC.region ?_ | refine WL.nil ?_ | refine WX.then_normal ?_ | refine WC.skip ?_ | refine WC.exit ?_ | refine WC.ret ?_ | refine WX.then_exit ?_ | refine WX.then_ret ?_ | refine WX.block_normal ?_ | refine WX.block_ret ?_ | refine WX.block_same ?_ | refine WX.block_other rfl ?_ | refine WC.label ?_ | refine WC.scope ?_ | refine WX.scope_normal ?_ | refine WX.scope_ret ?_ | refine WX.scope_exit ?_ | refine WL.y rfl (Yld.add rfl rfl (by simp only [In]; omega)) ?_ | refine WL.y rfl (Yld.sub rfl rfl (by simp only [In]; omega)) ?_ | refine WL.y rfl (Yld.mul rfl rfl (by simp only [In]; omega)) ?_ | refine WL.y rfl (Yld.convB tab_ok rfl rfl rfl rfl) ?_ | refine WL.y rfl (Yld.conv tab_ok rfl rfl rfl (by simp only [In]; omega)) ?_ | refine WL.y rfl (Yld.pure tab_ok rfl) ?_ | refine WL.y rfl (Yld.max2 rfl rfl) ?_ | refine WL.y rfl (Yld.pickV rfl rfl rfl) ?_ | refine WL.gno rfl rfl rfl rfl ?_ | refine WL.gyes rfl rfl rfl rfl (Yld.pure tab_ok rfl) ?_ | refine WL.gyes rfl rfl rfl rfl (Yld.pickV rfl rfl rfl) ?_ | refine WL.gun rfl rfl rfl rfl ?_ | rw [e1])
          exact WX.weaken (by repeat (first | exact Sub.nil | refine Sub.cons rfl ?_)) hQ
        · have e1 : decide (((t.getD i 0).toNat : Int) < 48) = false := decide_eq_false (by omega)
          have el : (!digB (t.getD i 0)) = decide (57 < ((t.getD i 0).toNat : Int)) := by
            unfold digB
            rw [← decide_not, decide_eq_decide]; omega
          rw [el] at hQ
          repeat (first | refine WC.seq ?_ | refine WC.block ?_ | refine WC.region ?_ | refine WL.nil ?_ | refine WX.then_normal ?_ | refine WC.skip ?_ | refine WC.exit ?_ | refine WC.ret ?_ | refine WX.then_exit ?_ | refine WX.then_ret ?_ | refine WX.block_normal ?_ | refine WX.block_ret ?_ | refine WX.block_same ?_ | refine WX.block_other rfl ?_ | refine WC.label ?_ | refine WC.scope ?_ | refine WX.scope_normal ?_ | refine WX.scope_ret ?_ | refine WX.scope_exit ?_ | refine WL.y rfl (Yld.add rfl rfl (by simp only [In]; omega)) ?_ | refine WL.y rfl (Yld.sub rfl rfl (by simp only [In]; omega)) ?_ | refine WL.y rfl (Yld.mul rfl rfl (by simp only [In]; omega)) ?_ | refine WL.y rfl (Yld.convB tab_ok rfl rfl rfl rfl) ?_ | refine WL.y rfl (Yld.conv tab_ok rfl rfl rfl (by simp only [In]; omega)) ?_ | refine WL.y rfl (Yld.pure tab_ok rfl) ?_ | refine WL.y rfl (Yld.max2 rfl rfl) ?_ | refine WL.y rfl (Yld.pickV rfl rfl rfl) ?_ | refine WL.gno rfl rfl rfl rfl ?_ | refine WL.gyes rfl rfl rfl rfl (Yld.pure tab_ok rfl) ?_ | refine WL.gyes rfl rfl rfl rfl (Yld.pickV rfl rfl rfl) ?_ | refine WL.gun rfl rfl rfl rfl ?_ | refine WL.gyes rfl rfl rfl rfl (Yld.sidxN tab_ok rfl rfl rfl (by omega)) ?_ | rw [e1])
          exact WX.weaken (by repeat (first | exact Sub.nil | refine Sub.cons rfl ?_)) hQ
      repeat (first | refine WC.seq ?_ | refine WC.block ?_ | refine WC.region ?_ | refine WL.nil ?_ | refine WX.then_normal ?_ | refine WC.skip ?_ | refine WC.exit ?_ | refine WC.ret ?_ | refine WX.then_exit ?_ | refine WX.then_ret ?_ | refine WX.block_normal ?_ | refine WX.block_ret ?_ | refine WX.block_same ?_ | refine WX.block_other rfl ?_ | refine WC.label ?_ | refine WC.scope ?_ | refine WX.scope_normal ?_ | refine WX.scope_ret ?_ | refine WX.scope_exit ?_ | refine WL.y rfl (Yld.add rfl rfl (by simp only [In]; omega)) ?_ | refine WL.y rfl (Yld.sub rfl rfl (by simp only [In]; omega)) ?_ | refine WL.y rfl (Yld.mul rfl rfl (by simp only [In]; omega)) ?_ | refine WL.y rfl (Yld.convB tab_ok rfl rfl rfl rfl) ?_ | refine WL.y rfl (Yld.conv tab_ok rfl rfl rfl (by simp only [In]; omega)) ?_ | refine WL.y rfl (Yld.pure tab_ok rfl) ?_ | refine WL.y rfl (Yld.max2 rfl rfl) ?_ | refine WL.y rfl (Yld.pickV rfl rfl rfl) ?_ | refine WL.gno rfl rfl rfl rfl ?_ | refine WL.gyes rfl rfl rfl rfl (Yld.pure tab_ok rfl) ?_ | refine WL.gyes rfl rfl rfl rfl (Yld.pickV rfl rfl rfl) ?_ | refine WL.gun rfl rfl rfl rfl ?_)
      refine WC.cond rfl (fun h' => ?_) (fun h' => ?_)
      · have h'' : digB (t.getD i 0) = false := by simpa using h'
        have hsh : t.all digB = false := hall h''
        repeat (first | refine WC.seq ?_ | refine WC.block ?_ | refine WC.region ?_ | refine WL.nil ?_ | refine WX.then_normal ?_ | refine WC.skip ?_ | refine WC.exit ?_ | refine WC.ret ?_ | refine WX.then_exit ?_ | refine WX.then_ret ?_ | refine WX.block_normal ?_ | refine WX.block_ret ?_ | refine WX.block_same ?_ | refine WX.block_other rfl ?_ | refine WC.label ?_ | refine WC.scope ?_ | refine WX.scope_normal ?_ | refine WX.scope_ret ?_ | refine WX.scope_exit ?_ | refine WL.y rfl (Yld.add rfl rfl (by simp only [In]; omega)) ?_ | refine WL.y rfl (Yld.sub rfl rfl (by simp only [In]; omega)) ?_ | refine WL.y rfl (Yld.mul rfl rfl (by simp only [In]; omega)) ?_ | refine WL.y rfl (Yld.convB tab_ok rfl rfl rfl rfl) ?_ | refine WL.y rfl (Yld.conv tab_ok rfl rfl rfl (by simp only [In]; omega)) ?_ | refine WL.y rfl (Yld.pure tab_ok rfl) ?_ | refine WL.y rfl (Yld.max2 rfl rfl) ?_ | refine WL.y rfl (Yld.pickV rfl rfl rfl) ?_ | refine WL.gno rfl rfl rfl rfl ?_ | refine WL.gyes rfl rfl rfl rfl (Yld.pure tab_ok rfl) ?_ | refine WL.gyes rfl rfl rfl rfl (Yld.pickV rfl rfl rfl) ?_ | refine WL.gun rfl rfl rfl rfl ?_)
        refine WC.chainJ (fun k => !(Nat.beq k 2)) (LD [1] (fun w' => w'.cell? ⟨0, 0, none⟩ = some E)) mixed (by kernel_rfl) (fun k w' h _ => (h.cell _).trans hE1) ?_
        refine WJ.y rfl rfl (fun w' _ => Yld.struct (us := [.bool false, .slice none 0 0]) zero44 places44 rfl rfl) ?_
        refine WJ.y rfl rfl (fun w' h => Yld.cell tab_ok (h rfl) rfl rfl) ?_
        refine WJ.eff rfl (Ef0.storeW (vs := [.bool false, .slice none 0 0]) tab_ok rfl rfl rfl (by intro u hu; simp at hu; rcases hu with rfl | rfl <;> rfl) hB1 rfl rfl) (fun w' h => DD.keep (cell_grown' h.2 hE1 (by simp; omega))) ?_
        rintro wz ⟨hBz, hgz⟩
        repeat (first | refine WJ.y rfl rfl (fun _ _ => Yld.add rfl rfl (by simp only [In]; omega)) ?_ | refine WJ.y rfl rfl (fun _ _ => Yld.sub rfl rfl (by simp only [In]; omega)) ?_ | refine WJ.y rfl rfl (fun _ _ => Yld.mul rfl rfl (by simp only [In]; omega)) ?_ | refine WJ.y rfl rfl (fun _ _ => Yld.convB tab_ok rfl rfl rfl rfl) ?_ | refine WJ.y rfl rfl (fun _ _ => Yld.conv tab_ok rfl rfl rfl (by simp only [In]; omega)) ?_ | refine WJ.y rfl rfl (fun _ _ => Yld.pure tab_ok rfl) ?_ | refine WJ.y rfl rfl (fun _ _ => Yld.max2 rfl rfl) ?_ | refine WJ.y rfl rfl (fun _ _ => Yld.pickV rfl rfl rfl) ?_ | refine WJ.no rfl rfl rfl rfl ?_ | refine WJ.gun rfl rfl rfl rfl ?_ | refine WJ.yw rfl (wants_some rfl rfl rfl) rfl (fun _ _ => Yld.add rfl rfl (by simp only [In]; omega)) ?_ | refine WJ.yw rfl (wants_some rfl rfl rfl) rfl (fun _ _ => Yld.sub rfl rfl (by simp only [In]; omega)) ?_ | refine WJ.yw rfl (wants_some rfl rfl rfl) rfl (fun _ _ => Yld.mul rfl rfl (by simp only [In]; omega)) ?_ | refine WJ.yw rfl (wants_some rfl rfl rfl) rfl (fun _ _ => Yld.convB tab_ok rfl rfl rfl rfl) ?_ | refine WJ.yw rfl (wants_some rfl rfl rfl) rfl (fun _ _ => Yld.conv tab_ok rfl rfl rfl (by simp only [In]; omega)) ?_ | refine WJ.yw rfl (wants_some rfl rfl rfl) rfl (fun _ _ => Yld.pure tab_ok rfl) ?_)
        refine WJ.nil ?_
        repeat (first | refine WC.seq ?_ | refine WC.block ?_ | refine WC.region ?_ | refine WL.nil ?_ | refine WX.then_normal ?_ | refine WC.skip ?_ | refine WC.exit ?_ | refine WC.ret ?_ | refine WX.then_exit ?_ | refine WX.then_ret ?_ | refine WX.block_normal ?_ | refine WX.block_ret ?_ | refine WX.block_same ?_ | refine WX.block_other rfl ?_ | refine WC.label ?_ | refine WC.scope ?_ | refine WX.scope_normal ?_ | refine WX.scope_ret ?_ | refine WX.scope_exit ?_ | refine WL.y rfl (Yld.add rfl rfl (by simp only [In]; omega)) ?_ | refine WL.y rfl (Yld.sub rfl rfl (by simp only [In]; omega)) ?_ | refine WL.y rfl (Yld.mul rfl rfl (by simp only [In]; omega)) ?_ | refine WL.y rfl (Yld.convB tab_ok rfl rfl rfl rfl) ?_ | refine WL.y rfl (Yld.conv tab_ok rfl rfl rfl (by simp only [In]; omega)) ?_ | refine WL.y rfl (Yld.pure tab_ok rfl) ?_ | refine WL.y rfl (Yld.max2 rfl rfl) ?_ | refine WL.y rfl (Yld.pickV rfl rfl rfl) ?_ | refine WL.gno rfl rfl rfl rfl ?_ | refine WL.gyes rfl rfl rfl rfl (Yld.pure tab_ok rfl) ?_ | refine WL.gyes rfl rfl rfl rfl (Yld.pickV rfl rfl rfl) ?_ | refine WL.gun rfl rfl rfl rfl ?_)
        exact WX.retct tab_ok rfl rfl rfl hBz rfl rfl ⟨.inr ⟨.inl (by rw [hsh]; simp), by rw [hsh]; simp⟩, gr_new hg1 hgz hl1⟩
      · have h'' : digB (t.getD i 0) = true := by simpa using h'
        repeat (first | refine WC.seq ?_ | refine WC.block ?_ | refine WC.region ?_ | refine WL.nil ?_ | refine WX.then_normal ?_ | refine WC.skip ?_ | refine WC.exit ?_ | refine WC.ret ?_ | refine WX.then_exit ?_ | refine WX.then_ret ?_ | refine WX.block_normal ?_ | refine WX.block_ret ?_ | refine WX.block_same ?_ | refine WX.block_other rfl ?_ | refine WC.label ?_ | refine WC.scope ?_ | refine WX.scope_normal ?_ | refine WX.scope_ret ?_ | refine WX.scope_exit ?_ | refine WL.y rfl (Yld.add rfl rfl (by simp only [In]; omega)) ?_ | refine WL.y rfl (Yld.sub rfl rfl (by simp only [In]; omega)) ?_ | refine WL.y rfl (Yld.mul rfl rfl (by simp only [In]; omega)) ?_ | refine WL.y rfl (Yld.convB tab_ok rfl rfl rfl rfl) ?_ | refine WL.y rfl (Yld.conv tab_ok rfl rfl rfl (by simp only [In]; omega)) ?_ | refine WL.y rfl (Yld.pure tab_ok rfl) ?_ | refine WL.y rfl (Yld.max2 rfl rfl) ?_ | refine WL.y rfl (Yld.pickV rfl rfl rfl) ?_ | refine WL.gno rfl rfl rfl rfl ?_ | refine WL.gyes rfl rfl rfl rfl (Yld.pure tab_ok rfl) ?_ | refine WL.gyes rfl rfl rfl rfl (Yld.pickV rfl rfl rfl) ?_ | refine WL.gun rfl rfl rfl rfl ?_)
        exact WX.round (i + 1) ⟨by omega, by rw [hpu, List.all_append, hd]; simp only [List.all_cons, List.all_nil, Bool.and_true, Bool.true_and]; exact h'', rfl⟩ (by omega) (by repeat (first | exact Sub.nil | refine Sub.cons rfl ?_))
    · simp only [decide_eq_false_iff_not] at hc
      obtain rfl : i = t.length := by omega
      rw [List.take_of_length_le (Nat.le_refl _)] at hd
      repeat (first | refine WC.seq ?_ | refine WC.block ?_ | refine WC.region ?_ | refine WL.nil ?_ | refine WX.then_normal ?_ | refine WC.skip ?_ | refine WC.exit ?_ | refine WC.ret ?_ | refine WX.then_exit ?_ | refine WX.then_ret ?_ | refine WX.block_normal ?_ | refine WX.block_ret ?_ | refine WX.block_same ?_ | refine WX.block_other rfl ?_ | refine WC.label ?_ | refine WC.scope ?_ | refine WX.scope_normal ?_ | refine WX.scope_ret ?_ | refine WX.scope_exit ?_ | refine WL.y rfl (Yld.add rfl rfl (by simp only [In]; omega)) ?_ | refine WL.y rfl (Yld.sub rfl rfl (by simp only [In]; omega)) ?_ | refine WL.y rfl (Yld.mul rfl rfl (by simp only [In]; omega)) ?_ | refine WL.y rfl (Yld.convB tab_ok rfl rfl rfl rfl) ?_ | refine WL.y rfl (Yld.conv tab_ok rfl rfl rfl (by simp only [In]; omega)) ?_ | refine WL.y rfl (Yld.pure tab_ok rfl) ?_ | refine WL.y rfl (Yld.max2 rfl rfl) ?_ | refine WL.y rfl (Yld.pickV rfl rfl rfl) ?_ | refine WL.gno rfl rfl rfl rfl ?_ | refine WL.gyes rfl rfl rfl rfl (Yld.pure tab_ok rfl) ?_ | refine WL.gyes rfl rfl rfl rfl (Yld.pickV rfl rfl rfl) ?_ | refine WL.gun rfl rfl rfl rfl ?_)
      refine WC.cond rfl (fun h' => ?_) (fun h' => ?_)
      · simp only [decide_eq_true_eq] at h'
        repeat (first | refine WC.seq ?_ | refine WC.block ?_ | refine WC.region ?_ | refine WL.nil ?_ | refine WX.then_normal ?_ | refine WC.skip ?_ | refine WC.exit ?_ | refine WC.ret ?_ | refine WX.then_exit ?_ | refine WX.then_ret ?_ | refine WX.block_normal ?_ | refine WX.block_ret ?_ | refine WX.block_same ?_ | refine WX.block_other rfl ?_ | refine WC.label ?_ | refine WC.scope ?_ | refine WX.scope_normal ?_ | refine WX.scope_ret ?_ | refine WX.scope_exit ?_ | refine WL.y rfl (Yld.add rfl rfl (by simp only [In]; omega)) ?_ | refine WL.y rfl (Yld.sub rfl rfl (by simp only [In]; omega)) ?_ | refine WL.y rfl (Yld.mul rfl rfl (by simp only [In]; omega)) ?_ | refine WL.y rfl (Yld.convB tab_ok rfl rfl rfl rfl) ?_ | refine WL.y rfl (Yld.conv tab_ok rfl rfl rfl (by simp only [In]; omega)) ?_ | refine WL.y rfl (Yld.pure tab_ok rfl) ?_ | refine WL.y rfl (Yld.max2 rfl rfl) ?_ | refine WL.y rfl (Yld.pickV rfl rfl rfl) ?_ | refine WL.gno rfl rfl rfl rfl ?_ | refine WL.gyes rfl rfl rfl rfl (Yld.pure tab_ok rfl) ?_ | refine WL.gyes rfl rfl rfl rfl (Yld.pickV rfl rfl rfl) ?_ | refine WL.gun rfl rfl rfl rfl ?_)
        refine WC.chainJ (fun k => !(Nat.beq k 2)) (LD [1] (fun w' => w'.cell? ⟨1, 0, none⟩ = some EL)) mixed (by kernel_rfl) (fun k w' h _ => (h.cell _).trans hEL1) ?_
        refine WJ.y rfl rfl (fun w' _ => Yld.struct (us := [.bool false, .slice none 0 0]) zero44 places44 rfl rfl) ?_
        refine WJ.y rfl rfl (fun w' h => Yld.cell tab_ok (h rfl) rfl rfl) ?_
        refine WJ.eff rfl (Ef0.storeW (vs := [.bool false, .slice none 0 0]) tab_ok rfl rfl rfl (by intro u hu; simp at hu; rcases hu with rfl | rfl <;> rfl) hB1 rfl rfl) (fun w' h => DD.keep (cell_grown' h.2 hEL1 (by simp; omega))) ?_
        rintro wz ⟨hBz, hgz⟩
        repeat (first | refine WJ.y rfl rfl (fun _ _ => Yld.add rfl rfl (by simp only [In]; omega)) ?_ | refine WJ.y rfl rfl (fun _ _ => Yld.sub rfl rfl (by simp only [In]; omega)) ?_ | refine WJ.y rfl rfl (fun _ _ => Yld.mul rfl rfl (by simp only [In]; omega)) ?_ | refine WJ.y rfl rfl (fun _ _ => Yld.convB tab_ok rfl rfl rfl rfl) ?_ | refine WJ.y rfl rfl (fun _ _ => Yld.conv tab_ok rfl rfl rfl (by simp only [In]; omega)) ?_ | refine WJ.y rfl rfl (fun _ _ => Yld.pure tab_ok rfl) ?_ | refine WJ.y rfl rfl (fun _ _ => Yld.max2 rfl rfl) ?_ | refine WJ.y rfl rfl (fun _ _ => Yld.pickV rfl rfl rfl) ?_ | refine WJ.no rfl rfl rfl rfl ?_ | refine WJ.gun rfl rfl rfl rfl ?_ | refine WJ.yw rfl (wants_some rfl rfl rfl) rfl (fun _ _ => Yld.add rfl rfl (by simp only [In]; omega)) ?_ | refine WJ.yw rfl (wants_some rfl rfl rfl) rfl (fun _ _ => Yld.sub rfl rfl (by simp only [In]; omega)) ?_ | refine WJ.yw rfl (wants_some rfl rfl rfl) rfl (fun _ _ => Yld.mul rfl rfl (by simp only [In]; omega)) ?_ | refine WJ.yw rfl (wants_some rfl rfl rfl) rfl (fun _ _ => Yld.convB tab_ok rfl rfl rfl rfl) ?_ | refine WJ.yw rfl (wants_some rfl rfl rfl) rfl (fun _ _ => Yld.conv tab_ok rfl rfl rfl (by simp only [In]; omega)) ?_ | refine WJ.yw rfl (wants_some rfl rfl rfl) rfl (fun _ _ => Yld.pure tab_ok rfl) ?_)
        refine WJ.nil ?_
        repeat (first | refine WC.seq ?_ | refine WC.block ?_ | refine WC.region ?_ | refine WL.nil ?_ | refine WX.then_normal ?_ | refine WC.skip ?_ | refine WC.exit ?_ | refine WC.ret ?_ | refine WX.then_exit ?_ | refine WX.then_ret ?_ | refine WX.block_normal ?_ | refine WX.block_ret ?_ | refine WX.block_same ?_ | refine WX.block_other rfl ?_ | refine WC.label ?_ | refine WC.scope ?_ | refine WX.scope_normal ?_ | refine WX.scope_ret ?_ | refine WX.scope_exit ?_ | refine WL.y rfl (Yld.add rfl rfl (by simp only [In]; omega)) ?_ | refine WL.y rfl (Yld.sub rfl rfl (by simp only [In]; omega)) ?_ | refine WL.y rfl (Yld.mul rfl rfl (by simp only [In]; omega)) ?_ | refine WL.y rfl (Yld.convB tab_ok rfl rfl rfl rfl) ?_ | refine WL.y rfl (Yld.conv tab_ok rfl rfl rfl (by simp only [In]; omega)) ?_ | refine WL.y rfl (Yld.pure tab_ok rfl) ?_ | refine WL.y rfl (Yld.max2 rfl rfl) ?_ | refine WL.y rfl (Yld.pickV rfl rfl rfl) ?_ | refine WL.gno rfl rfl rfl rfl ?_ | refine WL.gyes rfl rfl rfl rfl (Yld.pure tab_ok rfl) ?_ | refine WL.gyes rfl rfl rfl rfl (Yld.pickV rfl rfl rfl) ?_ | refine WL.gun rfl rfl rfl rfl ?_)
        exact WX.retct tab_ok rfl rfl rfl hBz rfl rfl ⟨.inr ⟨.inr (by omega), by rw [hd]; rfl⟩, gr_new hg1 hgz hl1⟩
      · simp only [decide_eq_false_iff_not] at h'
        repeat (first | refine WC.seq ?_ | refine WC.block ?_ | refine WC.region ?_ | refine WL.nil ?_ | refine WX.then_normal ?_ | refine WC.skip ?_ | refine WC.exit ?_ | refine WC.ret ?_ | refine WX.then_exit ?_ | refine WX.then_ret ?_ | refine WX.block_normal ?_ | refine WX.block_ret ?_ | refine WX.block_same ?_ | refine WX.block_other rfl ?_ | refine WC.label ?_ | refine WC.scope ?_ | refine WX.scope_normal ?_ | refine WX.scope_ret ?_ | refine WX.scope_exit ?_ | refine WL.y rfl (Yld.add rfl rfl (by simp only [In]; omega)) ?_ | refine WL.y rfl (Yld.sub rfl rfl (by simp only [In]; omega)) ?_ | refine WL.y rfl (Yld.mul rfl rfl (by simp only [In]; omega)) ?_ | refine WL.y rfl (Yld.convB tab_ok rfl rfl rfl rfl) ?_ | refine WL.y rfl (Yld.conv tab_ok rfl rfl rfl (by simp only [In]; omega)) ?_ | refine WL.y rfl (Yld.pure tab_ok rfl) ?_ | refine WL.y rfl (Yld.max2 rfl rfl) ?_ | refine WL.y rfl (Yld.pickV rfl rfl rfl) ?_ | refine WL.gno rfl rfl rfl rfl ?_ | refine WL.gyes rfl rfl rfl rfl (Yld.pure tab_ok rfl) ?_ | refine WL.gyes rfl rfl rfl rfl (Yld.pickV rfl rfl rfl) ?_ | refine WL.gun rfl rfl rfl rfl ?_)
        refine WC.loop3 (S1 := List Nat) (S2 := Option Addr) (S3 := Nat) (fun l _ _ => t.length + 9 - 9 * l.length) (fun l A' c' => [(8, .int .i64 ((t.length : Int) - 9 * (l.length : Int))), (7, .slice A' l.length c'), (2, .pointer (some ⟨g1, 0, none⟩)), (4, vs t), (5, .bool neg)])
          (fun l A' c' w3 => 9 * l.length < t.length + 9 ∧ Dg l ∧ val l + 1000000000 ^ l.length * dval (t.take (t.length - 9 * l.length)) = dval t ∧ Own vd w3 w2.heap.size 98 A' c' l ∧ w2.grownBy w3 none) [] none 0
          ⟨by simp, Dg.nil, by simp [val], Own.nil _ _ _ _, gr_refl _ _⟩ (by rw [show (t.length : Int) - 9 * (([] : List Nat).length : Int) = (t.length : Int) by simp]; repeat (first | exact Sub.nil | refine Sub.cons rfl ?_)) (fun l A' c' w3 ⟨hl9, hD, hv, hO, hg3⟩ => ?_)
        repeat (first | refine WC.seq ?_ | refine WC.block ?_ | refine WC.region ?_ | refine WL.nil ?_ | refine WX.then_normal ?_ | refine WC.skip ?_ | refine WC.exit ?_ | refine WC.ret ?_ | refine WX.then_exit ?_ | refine WX.then_ret ?_ | refine WX.block_normal ?_ | refine WX.block_ret ?_ | refine WX.block_same ?_ | refine WX.block_other rfl ?_ | refine WC.label ?_ | refine WC.scope ?_ | refine WX.scope_normal ?_ | refine WX.scope_ret ?_ | refine WX.scope_exit ?_ | refine WL.y rfl (Yld.add rfl rfl (by simp only [In]; omega)) ?_ | refine WL.y rfl (Yld.sub rfl rfl (by simp only [In]; omega)) ?_ | refine WL.y rfl (Yld.mul rfl rfl (by simp only [In]; omega)) ?_ | refine WL.y rfl (Yld.convB tab_ok rfl rfl rfl rfl) ?_ | refine WL.y rfl (Yld.conv tab_ok rfl rfl rfl (by simp only [In]; omega)) ?_ | refine WL.y rfl (Yld.pure tab_ok rfl) ?_ | refine WL.y rfl (Yld.max2 rfl rfl) ?_ | refine WL.y rfl (Yld.pickV rfl rfl rfl) ?_ | refine WL.gno rfl rfl rfl rfl ?_ | refine WL.gyes rfl rfl rfl rfl (Yld.pure tab_ok rfl) ?_ | refine WL.gyes rfl rfl rfl rfl (Yld.pickV rfl rfl rfl) ?_ | refine WL.gun rfl rfl rfl rfl ?_)
        refine WC.cond rfl (fun hp => ?_) (fun hp => ?_)
        · simp only [decide_eq_true_eq] at hp
          have hlc := limb_cut t (t.length - 9 * l.length) (by omega)
          have hep : 0 < t.length - 9 * l.length := by omega
          have hei : (t.length : Int) - 9 * (l.length : Int) = ((t.length - 9 * l.length : Nat) : Int) := by omega
          rw [hei]
          generalize hE0 : t.length - 9 * l.length = e at *
          have hmx : (if ((e : Int) - 9) > 0 then ((e : Int) - 9) else 0) = ((e - 9 : Nat) : Int) := by split <;> omega
          repeat (first | refine WC.seq ?_ | refine WC.block ?_ | refine WC.region ?_ | refine WL.nil ?_ | refine WX.then_normal ?_ | refine WC.skip ?_ | refine WC.exit ?_ | refine WC.ret ?_ | refine WX.then_exit ?_ | refine WX.then_ret ?_ | refine WX.block_normal ?_ | refine WX.block_ret ?_ | refine WX.block_same ?_ | refine WX.block_other rfl ?_ | refine WC.label ?_ | refine WC.scope ?_ | refine WX.scope_normal ?_ | refine WX.scope_ret ?_ | refine WX.scope_exit ?_ | refine WL.y rfl (Yld.add rfl rfl (by simp only [In]; omega)) ?_ | refine WL.y rfl (Yld.sub rfl rfl (by simp only [In]; omega)) ?_ | refine WL.y rfl (Yld.mul rfl rfl (by simp only [In]; omega)) ?_ | refine WL.y rfl (Yld.convB tab_ok rfl rfl rfl rfl) ?_ | refine WL.y rfl (Yld.conv tab_ok rfl rfl rfl (by simp only [In]; omega)) ?_ | refine WL.y rfl (Yld.pure tab_ok rfl) ?_ | refine WL.y rfl (Yld.max2 rfl rfl) ?_ | refine WL.y rfl (Yld.pickV rfl rfl rfl) ?_ | refine WL.gno rfl rfl rfl rfl ?_ | refine WL.gyes rfl rfl rfl rfl (Yld.pure tab_ok rfl) ?_ | refine WL.gyes rfl rfl rfl rfl (Yld.pickV rfl rfl rfl) ?_ | refine WL.gun rfl rfl rfl rfl ?_)
          rw [hmx]
          refine WC.loop2 (S1 := Nat) (S2 := Nat) (fun i _ => e - i) (fun i v => [(10, vi i), (9, vd v), (8, .int .i64 (e : Int)), (7, .slice A' l.length c'), (2, .pointer (some ⟨g1, 0, none⟩)), (4, vs t), (5, .bool neg)])
            (fun i v w4 => e - 9 ≤ i ∧ i ≤ e ∧ v = dval ((t.take i).drop (e - 9)) ∧ w4 = w3) (e - 9) 0 ⟨by omega, by omega, by rw [List.drop_eq_nil_of_le (by simp; omega)]; rfl, rfl⟩ (by repeat (first | exact Sub.nil | refine Sub.cons rfl ?_)) (fun i v w4 ⟨hi1, hi2, hv2, hw4⟩ => ?_)
          subst hw4
          have hvl : v < 10 ^ (i - (e - 9)) := by
            have h1 : ((t.take i).drop (e - 9)).all digB = true := by
              rw [List.all_eq_true]
              intro c hc
              exact List.all_eq_true.1 hd c (List.mem_of_mem_take (List.mem_of_mem_drop hc))
            have h2 := dval_lt h1
            have h3 : ((t.take i).drop (e - 9)).length = i - (e - 9) := by simp; omega
            rw [h3] at h2
            omega
          repeat (first | refine WC.seq ?_ | refine WC.block ?_ | refine WC.region ?_ | refine WL.nil ?_ | refine WX.then_normal ?_ | refine WC.skip ?_ | refine WC.exit ?_ | refine WC.ret ?_ | refine WX.then_exit ?_ | refine WX.then_ret ?_ | refine WX.block_normal ?_ | refine WX.block_ret ?_ | refine WX.block_same ?_ | refine WX.block_other rfl ?_ | refine WC.label ?_ | refine WC.scope ?_ | refine WX.scope_normal ?_ | refine WX.scope_ret ?_ | refine WX.scope_exit ?_ | refine WL.y rfl (Yld.add rfl rfl (by simp only [In]; omega)) ?_ | refine WL.y rfl (Yld.sub rfl rfl (by simp only [In]; omega)) ?_ | refine WL.y rfl (Yld.mul rfl rfl (by simp only [In]; omega)) ?_ | refine WL.y rfl (Yld.convB tab_ok rfl rfl rfl rfl) ?_ | refine WL.y rfl (Yld.conv tab_ok rfl rfl rfl (by simp only [In]; omega)) ?_ | refine WL.y rfl (Yld.pure tab_ok rfl) ?_ | refine WL.y rfl (Yld.max2 rfl rfl) ?_ | refine WL.y rfl (Yld.pickV rfl rfl rfl) ?_ | refine WL.gno rfl rfl rfl rfl ?_ | refine WL.gyes rfl rfl rfl rfl (Yld.pure tab_ok rfl) ?_ | refine WL.gyes rfl rfl rfl rfl (Yld.pickV rfl rfl rfl) ?_ | refine WL.gun rfl rfl rfl rfl ?_)
          refine WC.cond rfl (fun hj => ?_) (fun hj => ?_)
          · simp only [decide_eq_true_eq] at hj
            have hdg := dig_at hd i (by omega)
            have hv8 : v < 10 ^ 8 := Nat.lt_of_lt_of_le hvl (Nat.pow_le_pow_right (by omega) (by omega))
            repeat (first | refine WL.y rfl (Yld.sidxN tab_ok rfl rfl rfl (by omega)) ?_ | refine WC.seq ?_ | refine WC.block ?_ | refine WC.region ?_ | refine WL.nil ?_ | refine WX.then_normal ?_ | refine WC.skip ?_ | refine WC.exit ?_ | refine WC.ret ?_ | refine WX.then_exit ?_ | refine WX.then_ret ?_ | refine WX.block_normal ?_ | refine WX.block_ret ?_ | refine WX.block_same ?_ | refine WX.block_other rfl ?_ | refine WC.label ?_ | refine WC.scope ?_ | refine WX.scope_normal ?_ | refine WX.scope_ret ?_ | refine WX.scope_exit ?_ | refine WL.y rfl (Yld.add rfl rfl (by simp only [In]; omega)) ?_ | refine WL.y rfl (Yld.sub rfl rfl (by simp only [In]; omega)) ?_ | refine WL.y rfl (Yld.mul rfl rfl (by simp only [In]; omega)) ?_ | refine WL.y rfl (Yld.convB tab_ok rfl rfl rfl rfl) ?_ | refine WL.y rfl (Yld.conv tab_ok rfl rfl rfl (by simp only [In]; omega)) ?_ | refine WL.y rfl (Yld.pure tab_ok rfl) ?_ | refine WL.y rfl (Yld.max2 rfl rfl) ?_ | refine WL.y rfl (Yld.pickV rfl rfl rfl) ?_ | refine WL.gno rfl rfl rfl rfl ?_ | refine WL.gyes rfl rfl rfl rfl (Yld.pure tab_ok rfl) ?_ | refine WL.gyes rfl rfl rfl rfl (Yld.pickV rfl rfl rfl) ?_ | refine WL.gun rfl rfl rfl rfl ?_)
            have hnv : (v : Int) * 10 + (((t.getD i 0).toNat : Int) - 48) = ((v * 10 + ((t.getD i 0).toNat - 48) : Nat) : Int) := by omega
            rw [hnv]
            refine WX.round2 (i + 1) (v * 10 + ((t.getD i 0).toNat - 48)) ⟨by omega, by omega, ?_, rfl⟩ (by omega) (by repeat (first | exact Sub.nil | refine Sub.cons rfl ?_))
            have : (t.take (i + 1)).drop (e - 9) = (t.take i).drop (e - 9) ++ [t.getD i 0] := by
              rw [take_pushB t i (by omega), List.drop_append_of_le_length (by simp; omega)]
            rw [this, dval_push, ← hv2]
          · simp only [decide_eq_false_iff_not] at hj
            obtain rfl : i = e := by omega
            have hv9 : v < 10 ^ 9 := Nat.lt_of_lt_of_le hvl (Nat.pow_le_pow_right (by omega) (by omega))
            repeat (first | refine WC.seq ?_ | refine WC.block ?_ | refine WC.region ?_ | refine WL.nil ?_ | refine WX.then_normal ?_ | refine WC.skip ?_ | refine WC.exit ?_ | refine WC.ret ?_ | refine WX.then_exit ?_ | refine WX.then_ret ?_ | refine WX.block_normal ?_ | refine WX.block_ret ?_ | refine WX.block_same ?_ | refine WX.block_other rfl ?_ | refine WC.label ?_ | refine WC.scope ?_ | refine WX.scope_normal ?_ | refine WX.scope_ret ?_ | refine WX.scope_exit ?_ | refine WL.y rfl (Yld.add rfl rfl (by simp only [In]; omega)) ?_ | refine WL.y rfl (Yld.sub rfl rfl (by simp only [In]; omega)) ?_ | refine WL.y rfl (Yld.mul rfl rfl (by simp only [In]; omega)) ?_ | refine WL.y rfl (Yld.convB tab_ok rfl rfl rfl rfl) ?_ | refine WL.y rfl (Yld.conv tab_ok rfl rfl rfl (by simp only [In]; omega)) ?_ | refine WL.y rfl (Yld.pure tab_ok rfl) ?_ | refine WL.y rfl (Yld.max2 rfl rfl) ?_ | refine WL.y rfl (Yld.pickV rfl rfl rfl) ?_ | refine WL.gno rfl rfl rfl rfl ?_ | refine WL.gyes rfl rfl rfl rfl (Yld.pure tab_ok rfl) ?_ | refine WL.gyes rfl rfl rfl rfl (Yld.pickV rfl rfl rfl) ?_ | refine WL.gun rfl rfl rfl rfl ?_)
            refine WL.lit (us := [vd v]) tab_ok rfl rfl rfl (by intro u hu; rw [List.mem_singleton] at hu; rw [hu]; rfl) rfl (by omega) (fun g4 w5 hL5 hg5 hl5 => ?_)
            have hR5 : Rd vd w5 (some ⟨g4, 0, none⟩) 1 [v] := Rd.ofBl' hL5 (by simp) (by simp [maxLen])
            have hO5 := hO.grown hg5
            have hz3 := hg3.size
            have hz5 := hg5.size
            refine WL.append tab_ok rfl rfl One.d hO5 rfl rfl hR5 rfl rfl (by simp only [List.length_cons, List.length_nil]; omega) (by simp only [maxLen, List.length_cons, List.length_nil]; omega) (by omega) (fun A6 c6 w6 hO6 hg6 hf6 => ?_)
            repeat (first | refine WC.seq ?_ | refine WC.block ?_ | refine WC.region ?_ | refine WL.nil ?_ | refine WX.then_normal ?_ | refine WC.skip ?_ | refine WC.exit ?_ | refine WC.ret ?_ | refine WX.then_exit ?_ | refine WX.then_ret ?_ | refine WX.block_normal ?_ | refine WX.block_ret ?_ | refine WX.block_same ?_ | refine WX.block_other rfl ?_ | refine WC.label ?_ | refine WC.scope ?_ | refine WX.scope_normal ?_ | refine WX.scope_ret ?_ | refine WX.scope_exit ?_ | refine WL.y rfl (Yld.add rfl rfl (by simp only [In]; omega)) ?_ | refine WL.y rfl (Yld.sub rfl rfl (by simp only [In]; omega)) ?_ | refine WL.y rfl (Yld.mul rfl rfl (by simp only [In]; omega)) ?_ | refine WL.y rfl (Yld.convB tab_ok rfl rfl rfl rfl) ?_ | refine WL.y rfl (Yld.conv tab_ok rfl rfl rfl (by simp only [In]; omega)) ?_ | refine WL.y rfl (Yld.pure tab_ok rfl) ?_ | refine WL.y rfl (Yld.max2 rfl rfl) ?_ | refine WL.y rfl (Yld.pickV rfl rfl rfl) ?_ | refine WL.gno rfl rfl rfl rfl ?_ | refine WL.gyes rfl rfl rfl rfl (Yld.pure tab_ok rfl) ?_ | refine WL.gyes rfl rfl rfl rfl (Yld.pickV rfl rfl rfl) ?_ | refine WL.gun rfl rfl rfl rfl ?_)
            have hen : (i : Int) - 9 = (t.length : Int) - 9 * ((l ++ [v]).length : Int) := by simp; omega
            rw [hen]
            refine WX.round3 (l ++ [v]) A6 c6 ⟨by simp; omega, hD.push (by omega), ?_, hO6, gr_own (gr_trans hg3 hg5) hO5 hg6 (Nat.le_refl _)⟩ (by simp; omega) (by repeat (first | exact Sub.nil | refine Sub.cons rfl ?_))
            rw [val_push, List.length_append, List.length_singleton, Nat.pow_succ, ← hv, hlc, hv2]
            have he9 : t.length - 9 * (l.length + 1) = i - 9 := by omega
            rw [he9]
            split
            · grind
            · rw [show i - 9 = 0 by omega]
              simp [dval]
        · simp only [decide_eq_false_iff_not] at hp
          rw [show t.length - 9 * l.length = 0 by omega] at hv
          have hv' : val l = dval t := by simpa [dval] using hv
          have hB3 := hB1.keep hg3 (by simp)
          repeat (first | refine WC.seq ?_ | refine WC.block ?_ | refine WC.region ?_ | refine WL.nil ?_ | refine WX.then_normal ?_ | refine WC.skip ?_ | refine WC.exit ?_ | refine WC.ret ?_ | refine WX.then_exit ?_ | refine WX.then_ret ?_ | refine WX.block_normal ?_ | refine WX.block_ret ?_ | refine WX.block_same ?_ | refine WX.block_other rfl ?_ | refine WC.label ?_ | refine WC.scope ?_ | refine WX.scope_normal ?_ | refine WX.scope_ret ?_ | refine WX.scope_exit ?_ | refine WL.y rfl (Yld.add rfl rfl (by simp only [In]; omega)) ?_ | refine WL.y rfl (Yld.sub rfl rfl (by simp only [In]; omega)) ?_ | refine WL.y rfl (Yld.mul rfl rfl (by simp only [In]; omega)) ?_ | refine WL.y rfl (Yld.convB tab_ok rfl rfl rfl rfl) ?_ | refine WL.y rfl (Yld.conv tab_ok rfl rfl rfl (by simp only [In]; omega)) ?_ | refine WL.y rfl (Yld.pure tab_ok rfl) ?_ | refine WL.y rfl (Yld.max2 rfl rfl) ?_ | refine WL.y rfl (Yld.pickV rfl rfl rfl) ?_ | refine WL.gno rfl rfl rfl rfl ?_ | refine WL.gyes rfl rfl rfl rfl (Yld.pure tab_ok rfl) ?_ | refine WL.gyes rfl rfl rfl rfl (Yld.pickV rfl rfl rfl) ?_ | refine WL.gun rfl rfl rfl rfl ?_)
          refine WL.call rfl rfl (made_fn neg A' c' l w3 hO.rd hD (by omega)) ?_
          rintro r w8 ⟨hN, hg8⟩
          have hB8 := hB3.keep hg8 (by simp)
          obtain ⟨a, b, rfl, ha, hb⟩ := hN.agg
          refine WL.storeW (vs := [a, b]) tab_ok rfl rfl rfl (by intro u hu; simp at hu; rcases hu with rfl | rfl <;> assumption) hB8 rfl rfl (fun w9 hB9 hg9 => ?_)
          repeat (first | refine WC.seq ?_ | refine WC.block ?_ | refine WC.region ?_ | refine WL.nil ?_ | refine WX.then_normal ?_ | refine WC.skip ?_ | refine WC.exit ?_ | refine WC.ret ?_ | refine WX.then_exit ?_ | refine WX.then_ret ?_ | refine WX.block_normal ?_ | refine WX.block_ret ?_ | refine WX.block_same ?_ | refine WX.block_other rfl ?_ | refine WC.label ?_ | refine WC.scope ?_ | refine WX.scope_normal ?_ | refine WX.scope_ret ?_ | refine WX.scope_exit ?_ | refine WL.y rfl (Yld.add rfl rfl (by simp only [In]; omega)) ?_ | refine WL.y rfl (Yld.sub rfl rfl (by simp only [In]; omega)) ?_ | refine WL.y rfl (Yld.mul rfl rfl (by simp only [In]; omega)) ?_ | refine WL.y rfl (Yld.convB tab_ok rfl rfl rfl rfl) ?_ | refine WL.y rfl (Yld.conv tab_ok rfl rfl rfl (by simp only [In]; omega)) ?_ | refine WL.y rfl (Yld.pure tab_ok rfl) ?_ | refine WL.y rfl (Yld.max2 rfl rfl) ?_ | refine WL.y rfl (Yld.pickV rfl rfl rfl) ?_ | refine WL.gno rfl rfl rfl rfl ?_ | refine WL.gyes rfl rfl rfl rfl (Yld.pure tab_ok rfl) ?_ | refine WL.gyes rfl rfl rfl rfl (Yld.pickV rfl rfl rfl) ?_ | refine WL.gun rfl rfl rfl rfl ?_)
          rw [hv'] at hN
          exact WX.retct tab_ok rfl rfl rfl hB9 rfl rfl ⟨.inl ⟨by rw [hd]; rfl, by omega, _, rfl, (hN.stored hB8 zero_no hg9).mono (by omega)⟩, gr_new (gr_trans (gr_trans hg1 hg3) hg8) hg9 hl1⟩
end Go.Proofs.YtilphcippnfklaaDoor
 /- The contracts of package num (walked by hand) in the generator's form. -/
namespace Go.Proofs.YtilphcippnfklaaDoor
open Go Go.RowKit
abbrev RNum (K : Int → Nat → Prop) (w : World) (v : Value) (w' : World) : Prop := w.grownBy w' none ∧ ∃ (a b : Value) (z : Int) (m : Nat), v = .agg ⟨[a, b]⟩ ∧ Nm w' (.agg ⟨[a, b]⟩) z m ∧ a.oneCell' = true ∧ b.oneCell' = true ∧ K z m
theorem rnum {K : Int → Nat → Prop} {w w' : World} {v : Value} {z : Int} {m : Nat} (h : Nm w' v z m) (hg : w.grownBy w' none) (H : K z m) : RNum K w v w' := by
  obtain ⟨a, b, rfl, ha, hb⟩ := h.agg
  exact ⟨hg, a, b, z, m, rfl, h, ha, hb, H⟩
def M_num_Num_Add (x : Int) (m : Nat) (y : Int) (k : Nat) (K : Int → Nat → Prop) : Prop := max m k ≤ 900000 ∧ K (x + y) (max m k + 1)
theorem W_num_Num_Add {w : World} {a b c d : Value} {x y : Int} {m k : Nat} {K : Int → Nat → Prop} (h1 : Nm w (.agg ⟨[a, b]⟩) x m) (h2 : Nm w (.agg ⟨[c, d]⟩) y k) (H : M_num_Num_Add x m y k K) : Fn Tryd.prog 22 ⟨[.agg ⟨[a, b]⟩, .agg ⟨[c, d]⟩]⟩ w (RNum K w) :=
  (add_fn _ _ x y (max m k) w (h1.mono (by omega)) (h2.mono (by omega)) H.1).mono fun _ _ ⟨hN, hg⟩ => rnum hN hg H.2
def M_num_Num_Sub (x : Int) (m : Nat) (y : Int) (k : Nat) (K : Int → Nat → Prop) : Prop := max m k ≤ 900000 ∧ K (x - y) (max m k + 1)
theorem W_num_Num_Sub {w : World} {a b c d : Value} {x y : Int} {m k : Nat} {K : Int → Nat → Prop} (h1 : Nm w (.agg ⟨[a, b]⟩) x m) (h2 : Nm w (.agg ⟨[c, d]⟩) y k) (H : M_num_Num_Sub x m y k K) : Fn Tryd.prog 25 ⟨[.agg ⟨[a, b]⟩, .agg ⟨[c, d]⟩]⟩ w (RNum K w) :=
  (sub_fn _ _ x y (max m k) w (h1.mono (by omega)) (h2.mono (by omega)) H.1).mono fun _ _ ⟨hN, hg⟩ => rnum hN hg H.2
def M_num_Num_Mul (x : Int) (m : Nat) (y : Int) (k : Nat) (K : Int → Nat → Prop) : Prop := max m k ≤ 400000 ∧ K (x * y) (2 * max m k)
theorem W_num_Num_Mul {w : World} {a b c d : Value} {x y : Int} {m k : Nat} {K : Int → Nat → Prop} (h1 : Nm w (.agg ⟨[a, b]⟩) x m) (h2 : Nm w (.agg ⟨[c, d]⟩) y k) (H : M_num_Num_Mul x m y k K) : Fn Tryd.prog 24 ⟨[.agg ⟨[a, b]⟩, .agg ⟨[c, d]⟩]⟩ w (RNum K w) :=
  (mul_nm _ _ x y (max m k) w (h1.mono (by omega)) (h2.mono (by omega)) H.1).mono fun _ _ ⟨hN, hg⟩ => rnum (hN.mono (by omega)) hg H.2
def M_num_Num_Neg (x : Int) (m : Nat) (K : Int → Nat → Prop) : Prop := m ≤ 1000000 ∧ K (-x) m
theorem W_num_Num_Neg {w : World} {a b : Value} {x : Int} {m : Nat} {K : Int → Nat → Prop} (h1 : Nm w (.agg ⟨[a, b]⟩) x m) (H : M_num_Num_Neg x m K) : Fn Tryd.prog 29 ⟨[.agg ⟨[a, b]⟩]⟩ w (RNum K w) :=
  (neg_fn _ x m w h1 H.1).mono fun _ _ ⟨hN, hg⟩ => rnum hN hg H.2
def M_num_Of (n : Int) (K : Int → Nat → Prop) : Prop := -9223372036854775808 ≤ n ∧ n ≤ 9223372036854775807 ∧ K n 3
theorem W_num_Of {w : World} {n : Int} {K : Int → Nat → Prop} (H : M_num_Of n K) : Fn Tryd.prog 67 ⟨[.int .i64 n]⟩ w (RNum K w) :=
  (of_fn n w H.1 H.2.1).mono fun _ _ ⟨hN, hg⟩ => rnum hN hg H.2.2
def M_num_Num_Cmp (x : Int) (m : Nat) (y : Int) (k : Nat) (K : Int → Prop) : Prop := max m k ≤ 900000 ∧ K (if x < y then -1 else if y < x then 1 else 0)
theorem W_num_Num_Cmp {w : World} {a b c d : Value} {x y : Int} {m k : Nat} {K : Int → Prop} (h1 : Nm w (.agg ⟨[a, b]⟩) x m) (h2 : Nm w (.agg ⟨[c, d]⟩) y k) (H : M_num_Num_Cmp x m y k K) : Fn Tryd.prog 26 ⟨[.agg ⟨[a, b]⟩, .agg ⟨[c, d]⟩]⟩ w (fun v w' => w.grownBy w' none ∧ ∃ r : Int, v = .int .i64 r ∧ K r) :=
  (ncmp_fn _ _ x y (max m k) w (h1.mono (by omega)) (h2.mono (by omega)) H.1).mono fun _ _ ⟨hv, hg⟩ => ⟨hg, _, hv, H.2⟩
def M_num_Num_Text (x : Int) (m : Nat) (K : List UInt8 → Prop) : Prop := m ≤ 90000 ∧ K (txt x)
theorem W_num_Num_Text {w : World} {a b : Value} {x : Int} {m : Nat} {K : List UInt8 → Prop} (h1 : Nm w (.agg ⟨[a, b]⟩) x m) (H : M_num_Num_Text x m K) : Fn Tryd.prog 23 ⟨[.agg ⟨[a, b]⟩]⟩ w (fun v w' => w.grownBy w' none ∧ ∃ r : List UInt8, v = vs r ∧ K r) :=
  (text_fn _ x m w h1 H.1).mono fun _ _ ⟨hv, hg⟩ => ⟨hg, _, hv, H.2⟩
def M_num_Num_Div (x : Int) (m : Nat) (y : Int) (k : Nat) (K : Int → Nat → Bool → Prop) : Prop := max m k ≤ 90000 ∧ ∀ z, (y ≠ 0 → ∃ r, Floor x y z r) → (y = 0 → z = 0) → K z (max m k + 4) (!decide (y = 0))
theorem W_num_Num_Div {w : World} {a b c d : Value} {x y : Int} {m k : Nat} {K : Int → Nat → Bool → Prop} (h1 : Nm w (.agg ⟨[a, b]⟩) x m) (h2 : Nm w (.agg ⟨[c, d]⟩) y k) (H : M_num_Num_Div x m y k K) : Fn Tryd.prog 27 ⟨[.agg ⟨[a, b]⟩, .agg ⟨[c, d]⟩]⟩ w
    (fun v w' => w.grownBy w' none ∧ ∃ (a b : Value) (z : Int) (m : Nat) (r : Bool), v = .tuple #[.agg ⟨[a, b]⟩, .bool r] ∧ Nm w' (.agg ⟨[a, b]⟩) z m ∧ a.oneCell' = true ∧ b.oneCell' = true ∧ K z m r) :=
  (div_fn _ _ x y (max m k) w (h1.mono (by omega)) (h2.mono (by omega)) H.1).mono fun _ _ ⟨⟨u, uz, hv, hN, hf⟩, hg⟩ => by
    obtain ⟨a, b, rfl, ha, hb⟩ := hN.agg
    exact ⟨hg, a, b, uz, _, _, hv, hN, ha, hb, H.2 uz hf.1 hf.2⟩
def M_num_Num_Mod (x : Int) (m : Nat) (y : Int) (k : Nat) (K : Int → Nat → Bool → Prop) : Prop := max m k ≤ 90000 ∧ ∀ z, (y ≠ 0 → ∃ q, Floor x y q z) → (y = 0 → z = 0) → K z (max m k + 4) (!decide (y = 0))
theorem W_num_Num_Mod {w : World} {a b c d : Value} {x y : Int} {m k : Nat} {K : Int → Nat → Bool → Prop} (h1 : Nm w (.agg ⟨[a, b]⟩) x m) (h2 : Nm w (.agg ⟨[c, d]⟩) y k) (H : M_num_Num_Mod x m y k K) : Fn Tryd.prog 28 ⟨[.agg ⟨[a, b]⟩, .agg ⟨[c, d]⟩]⟩ w
    (fun v w' => w.grownBy w' none ∧ ∃ (a b : Value) (z : Int) (m : Nat) (r : Bool), v = .tuple #[.agg ⟨[a, b]⟩, .bool r] ∧ Nm w' (.agg ⟨[a, b]⟩) z m ∧ a.oneCell' = true ∧ b.oneCell' = true ∧ K z m r) :=
  (mod_fn _ _ x y (max m k) w (h1.mono (by omega)) (h2.mono (by omega)) H.1).mono fun _ _ ⟨⟨u, uz, hv, hN, hf⟩, hg⟩ => by
    obtain ⟨a, b, rfl, ha, hb⟩ := hN.agg
    exact ⟨hg, a, b, uz, _, _, hv, hN, ha, hb, H.2 uz hf.1 hf.2⟩
def M_num_Num_Int (x : Int) (m : Nat) (K : Int → Bool → Prop) : Prop := m ≤ 90000 ∧ (In64 x → K x true) ∧ (¬ In64 x → K 0 false)
theorem W_num_Num_Int {w : World} {a b : Value} {x : Int} {m : Nat} {K : Int → Bool → Prop} (h1 : Nm w (.agg ⟨[a, b]⟩) x m) (H : M_num_Num_Int x m K) : Fn Tryd.prog 34 ⟨[.agg ⟨[a, b]⟩]⟩ w (fun v w' => w.grownBy w' none ∧ ∃ (r : Int) (s : Bool), v = .tuple #[.int .i64 r, .bool s] ∧ K r s) :=
  (int_fn _ x m w h1 H.1).mono fun _ _ ⟨hv, hg⟩ => by
    rcases hv with ⟨h, rfl⟩ | ⟨h, rfl⟩
    · exact ⟨hg, _, _, rfl, H.2.1 h⟩
    · exact ⟨hg, _, _, rfl, H.2.2 h⟩
theorem Nm.zero {w : World} : Nm w (.agg ⟨[.bool false, .slice none 0 0]⟩) 0 0 := ⟨false, none, 0, [], rfl, Rd.nil _ _ (by simp [maxLen]), fun i => by simp, by simp [Can], by simp, (fun h => by cases h), rfl⟩
def M_num_Parse (s : List UInt8) (K : Int → Nat → Er → Prop) : Prop := s.length ≤ maxLen ∧ (shape s = true → (cutm s).length ≤ 2400 → K (sval s) (cutm s).length .ok) ∧ (shape s = true → 2400 < (cutm s).length → K 0 0 (.e 7)) ∧ (shape s = false → K 0 0 (.e 12))
theorem W_num_Parse {S : List Nat} {w : World} {s : List UInt8} {K : Int → Nat → Er → Prop} (hG : GOK S w) (h7 : 7 ∈ S) (h12 : 12 ∈ S) (H : M_num_Parse s K) : Fn Tryd.prog 21 ⟨[vs s]⟩ w
    (fun v w' => w.grownBy w' none ∧ ∃ (a b : Value) (z : Int) (m : Nat) (u : Value) (e : Er), v = .tuple #[.agg ⟨[a, b]⟩, u] ∧ Nm w' (.agg ⟨[a, b]⟩) z m ∧ ErrR S w' u e ∧ a.oneCell' = true ∧ b.oneCell' = true ∧ K z m e) := by
  obtain ⟨E, hE, hE'⟩ := hG.get 12 0 h12 rfl rfl
  obtain ⟨EL, hL, hL'⟩ := hG.get 7 1 h7 rfl rfl
  refine (nparse_fn s E EL w H.1 hE hL).mono fun v w' ⟨hv, hg⟩ => ?_
  rcases hv with ⟨h1, h2, a, rfl, hN⟩ | ⟨h, rfl⟩
  · obtain ⟨x, y, rfl, hx, hy⟩ := hN.agg
    exact ⟨hg, x, y, _, _, .nilIface, .ok, rfl, hN, rfl, hx, hy, H.2.1 h1 h2⟩
  · cases hs : shape s with
    | true =>
      rcases h with h | h
      · rw [hs] at h; cases h
      · exact ⟨hg, _, _, 0, 0, EL, .e 7, by simp, Nm.zero, hL'.grown hg, rfl, rfl, H.2.2.1 hs h⟩
    | false => exact ⟨hg, _, _, 0, 0, E, .e 12, by simp, Nm.zero, hE'.grown hg, rfl, rfl, H.2.2.2 hs⟩
def M_smithylaw9_first (K : Bool → Prop) : Prop := K true
theorem W_smithylaw9_first {w : World} {K : Bool → Prop} (H : M_smithylaw9_first K) : Fn Tryd.prog 20 ⟨[]⟩ w (fun v w' => w.grownBy w' none ∧ ∃ r : Bool, v = .bool r ∧ K r) :=
  (nfirst_fn w).mono fun _ _ ⟨hv, hg⟩ => ⟨hg, _, hv, H⟩
def M_strings_TrimPrefix (s p : List UInt8) (K : List UInt8 → Prop) : Prop := s.length ≤ maxLen ∧ K (if isPre p s then s.drop p.length else s)
theorem W_strings_TrimPrefix {w : World} {s p : List UInt8} {K : List UInt8 → Prop} (H : M_strings_TrimPrefix s p K) : Fn Tryd.prog 83 ⟨[vs s, vs p]⟩ w (fun v w' => w = w' ∧ ∃ r : List UInt8, v = vs r ∧ K r) :=
  (strimPrefix_fn s p w H.1).mono fun _ _ ⟨hv, hg⟩ => ⟨hg.symm, _, hv, H.2⟩
end Go.Proofs.YtilphcippnfklaaDoor
 /- Printed by a program (wip/vg): what the functions mean, plainly, and their walks. -/
namespace Go.Proofs.YtilphcippnfklaaDoor
open Go Go.RowKit
attribute [local irreducible] WL WC WX WQ WK WJ Yld Eff Ef0 Fn
def M_smithysee_Alike (a : Er) (b : Er) (K : Bool → Prop) : Prop :=
 ((((decide (a = Er.ok)) || (decide (b = Er.ok))) = true → K ((decide (a = Er.ok)) && (decide (b = Er.ok)))) ∧
 (((decide (a = Er.ok)) || (decide (b = Er.ok))) = false → (¬ (a = Er.ok ∧ b = Er.ok) ∧ ((∀ p n, a ≠ Er.at_ p n) ∨ ∀ p n, b ≠ Er.at_ p n)) ∧
 K (decide (a = b))))

def M_smithyref_None (K : Int → Bool → Int → Bool → (List UInt8) → Prop) : Prop :=
 K (0 : Int) false (0 : Int) false ([] : List UInt8)

def M_smithyref_Bare (code : Int) (K : Int → Bool → Int → Bool → (List UInt8) → Prop) : Prop :=
 K code false (0 : Int) false ([] : List UInt8)

def M_smithyref_Placed (code : Int) (pos : Int) (K : Int → Bool → Int → Bool → (List UInt8) → Prop) : Prop :=
 ((code = (0 : Int) → M_smithyref_None (fun (t7_Code : Int) (t7_Placed : Bool) (t7_Pos : Int) (t7_Filed : Bool) (t7_File : List UInt8) =>
 K t7_Code t7_Placed t7_Pos t7_Filed t7_File)) ∧
 (¬ (code = (0 : Int)) → K code true pos false ([] : List UInt8)))

def M_smithyref_SameFault (a_Code : Int) (a_Placed : Bool) (a_Pos : Int) (a_Filed : Bool) (a_File : List UInt8) (b_Code : Int) (b_Placed : Bool) (b_Pos : Int) (b_Filed : Bool) (b_File : List UInt8) (K : Bool → Prop) : Prop :=
 K (((((decide (a_Code = b_Code)) && (a_Placed == b_Placed)) && (decide (a_Pos = b_Pos))) && (a_Filed == b_Filed)) && (decide (a_File = b_File)))

set_option maxHeartbeats 8000000 in
theorem W_smithysee_Alike {S : List Nat} {w : World} {v_a : Value} {a : Er} {v_b : Value} {b : Er} {K : Bool → Prop} (ha : ErrR S w v_a a) (hb : ErrR S w v_b b) (H : M_smithysee_Alike a b K) : Fn Tryd.prog 166 ⟨[v_a, v_b]⟩ w (fun v w' => w = w' ∧ ∃ (r : Bool), v = .bool r ∧ K r) := by
  unfold M_smithysee_Alike at H
  refine Fn.enter (by kernel_rfl) Tryd.func166 rfl Tryd.ntmps166 rfl ?_
  refine WC.seq ?_
  refine WC.region ?_
  refine WL.y rfl (Yld.pure tab_ok rfl) ?_
  refine WL.nil (WX.then_normal ?_)
  refine WC.seq ?_
  refine WC.seq ?_
  refine WC.region ?_
  refine WL.y rfl (Yld.pure tab_ok rfl) ?_
  refine WL.y rfl (Yld.erreql Tryd.underlying28 ha rfl) ?_
  refine WL.y rfl (Yld.pure tab_ok rfl) ?_
  refine WL.midF 3 (fun L' w' => ∃ q1 : Bool, L' = [(10, .bool q1), (0, v_a), (1, v_b)] ∧ q1 = ((decide (a = Er.ok)) || (decide (b = Er.ok))) ∧ w = w') ?_ (fun hQ => ?_)
  · rintro _ _ ⟨q1, rfl, rfl, rfl⟩
    refine WL.nil (WX.then_normal ?_)
    refine WC.cond rfl (fun b1 => ?_) (fun b1 => ?_)
    · replace H := H.1 (b1)
      refine WC.seq ?_
      refine WC.region ?_
      refine WL.y rfl (Yld.pure tab_ok rfl) ?_
      refine WL.y rfl (Yld.erreql Tryd.underlying28 ha rfl) ?_
      refine WL.y rfl (Yld.pure tab_ok rfl) ?_
      refine WL.midF 3 (fun L' w' => ∃ q2 : Bool, L' = [(16, .bool q2)] ∧ q2 = ((decide (a = Er.ok)) && (decide (b = Er.ok))) ∧ w = w') ?_ (fun hQ => ?_)
      · rintro _ _ ⟨q2, rfl, rfl, rfl⟩
        refine WL.y rfl (Yld.pure tab_ok rfl) ?_
        refine WL.nil (WX.then_normal ?_)
        refine WC.ret (WX.then_ret ?_)
        exact WX.ret1 rfl rfl ⟨rfl, (decide (a = Er.ok)) && (decide (b = Er.ok)), rfl, H⟩
      · clear H
        rcases Bool.eq_false_or_eq_true (decide (a = Er.ok)) with b2 | b2
        · refine WL.gyes rfl rfl (okb b2) rfl (Yld.pure tab_ok rfl) ?_
          refine WL.gyes rfl rfl (okb b2) rfl (Yld.erreql Tryd.underlying28 hb rfl) ?_
          refine WL.y rfl (Yld.pickT (okb b2) rfl) ?_
          exact WL.weaken (by repeat (first | exact Sub.nil | refine Sub.cons rfl ?_)) (hQ _ _ ⟨decide (b = Er.ok), rfl, by rw [b2] <;> rfl, rfl⟩)
        · refine WL.gno rfl rfl (okb b2) rfl ?_
          refine WL.gno rfl rfl (okb b2) rfl ?_
          refine WL.y rfl (Yld.pickF (okb b2) rfl) ?_
          exact WL.weaken (by repeat (first | exact Sub.nil | refine Sub.cons rfl ?_)) (hQ _ _ ⟨false, rfl, by rw [b2] <;> rfl, rfl⟩)
    · replace H := H.2 (b1)
      refine WC.skip (WX.then_normal ?_)
      refine WC.seq ?_
      refine WC.region ?_
      refine WL.y rfl (Yld.pure tab_ok rfl) ?_
      refine WL.y rfl (Yld.pure tab_ok rfl) ?_
      obtain ⟨h1, H⟩ := H
      refine WL.y rfl (Yld.erreqA ha hb h1 rfl rfl) ?_
      refine WL.y rfl (Yld.pure tab_ok rfl) ?_
      refine WL.nil (WX.then_normal ?_)
      refine WC.ret ?_
      exact WX.ret1 rfl rfl ⟨rfl, decide (a = b), rfl, H⟩
  · clear H
    rcases Bool.eq_false_or_eq_true (decide (a = Er.ok)) with b3 | b3
    · refine WL.gno rfl rfl (okb b3) rfl ?_
      refine WL.gno rfl rfl (okb b3) rfl ?_
      refine WL.y rfl (Yld.pickT (okb b3) rfl) ?_
      exact WL.weaken (by repeat (first | exact Sub.nil | refine Sub.cons rfl ?_)) (hQ _ _ ⟨true, rfl, by rw [b3] <;> rfl, rfl⟩)
    · refine WL.gyes rfl rfl (okb b3) rfl (Yld.pure tab_ok rfl) ?_
      refine WL.gyes rfl rfl (okb b3) rfl (Yld.erreql Tryd.underlying28 hb rfl) ?_
      refine WL.y rfl (Yld.pickF (okb b3) rfl) ?_
      exact WL.weaken (by repeat (first | exact Sub.nil | refine Sub.cons rfl ?_)) (hQ _ _ ⟨decide (b = Er.ok), rfl, by rw [b3] <;> rfl, rfl⟩)

set_option maxHeartbeats 8000000 in
theorem W_smithyref_None {w : World} {K : Int → Bool → Int → Bool → (List UInt8) → Prop} (H : M_smithyref_None  K) : Fn Tryd.prog 49 ⟨[]⟩ w (fun v w' => w.grownBy w' none ∧ ∃ (r_Code : Int), ∃ (r_Placed : Bool), ∃ (r_Pos : Int), ∃ (r_Filed : Bool), ∃ (r_File : List UInt8), v = .agg ⟨[.int .i64 r_Code, .bool r_Placed, .int .i64 r_Pos, .bool r_Filed, vs r_File]⟩ ∧ K r_Code r_Placed r_Pos r_Filed r_File) := by
  unfold M_smithyref_None at H
  refine Fn.enter (by kernel_rfl) Tryd.func49 rfl Tryd.ntmps49 rfl ?_
  refine WC.seq ?_
  refine WC.region ?_
  refine WL.alloc rfl zero79 (fun g1 w1 hB1 hg1 hl1 => ?_)
  have gr1 := hg1
  refine WL.nil (WX.then_normal ?_)
  refine WC.seq ?_
  refine WC.region ?_
  refine WL.y rfl (Yld.struct (us := [.int .i64 (0 : Int), .bool false, .int .i64 (0 : Int), .bool false, vs ([] : List UInt8)]) zero79 places79 rfl rfl) ?_
  refine WL.storeW (vs := [.int .i64 (0 : Int), .bool false, .int .i64 (0 : Int), .bool false, vs ([] : List UInt8)]) tab_ok rfl rfl rfl (all1c rfl (all1c rfl (all1c rfl (all1c rfl (all1c rfl all1n))))) hB1 rfl rfl (fun w2 hB2 hg2 => ?_)
  have gr2 := gr_mod gr1 hg2 (Ge.le (Ge.box hl1) (Nat.le_refl _))
  refine WL.nil (WX.then_normal ?_)
  refine WC.ret ?_
  exact WX.retc tab_ok rfl rfl rfl hB2 rfl ⟨gr2, (0 : Int), false, (0 : Int), false, ([] : List UInt8), rfl, H⟩

set_option maxHeartbeats 8000000 in
theorem W_smithyref_Bare {w : World} {code : Int} {K : Int → Bool → Int → Bool → (List UInt8) → Prop} (H : M_smithyref_Bare code K) : Fn Tryd.prog 66 ⟨[.int .i64 code]⟩ w (fun v w' => w.grownBy w' none ∧ ∃ (r_Code : Int), ∃ (r_Placed : Bool), ∃ (r_Pos : Int), ∃ (r_Filed : Bool), ∃ (r_File : List UInt8), v = .agg ⟨[.int .i64 r_Code, .bool r_Placed, .int .i64 r_Pos, .bool r_Filed, vs r_File]⟩ ∧ K r_Code r_Placed r_Pos r_Filed r_File) := by
  unfold M_smithyref_Bare at H
  refine Fn.enter (by kernel_rfl) Tryd.func66 rfl Tryd.ntmps66 rfl ?_
  refine WC.seq ?_
  refine WC.region ?_
  refine WL.alloc rfl zero79 (fun g1 w1 hB1 hg1 hl1 => ?_)
  have gr1 := hg1
  refine WL.nil (WX.then_normal ?_)
  refine WC.seq ?_
  refine WC.region ?_
  refine WL.y rfl (Yld.pure tab_ok rfl) ?_
  refine WL.y rfl (Yld.struct (us := [.int .i64 code, .bool false, .int .i64 (0 : Int), .bool false, vs ([] : List UInt8)]) zero79 places79 rfl rfl) ?_
  refine WL.storeW (vs := [.int .i64 code, .bool false, .int .i64 (0 : Int), .bool false, vs ([] : List UInt8)]) tab_ok rfl rfl rfl (all1c rfl (all1c rfl (all1c rfl (all1c rfl (all1c rfl all1n))))) hB1 rfl rfl (fun w2 hB2 hg2 => ?_)
  have gr2 := gr_mod gr1 hg2 (Ge.le (Ge.box hl1) (Nat.le_refl _))
  refine WL.nil (WX.then_normal ?_)
  refine WC.ret ?_
  exact WX.retc tab_ok rfl rfl rfl hB2 rfl ⟨gr2, code, false, (0 : Int), false, ([] : List UInt8), rfl, H⟩

set_option maxHeartbeats 8000000 in
theorem W_smithyref_Placed {w : World} {code : Int} {pos : Int} {K : Int → Bool → Int → Bool → (List UInt8) → Prop} (H : M_smithyref_Placed code pos K) : Fn Tryd.prog 51 ⟨[.int .i64 code, .int .i64 pos]⟩ w (fun v w' => w.grownBy w' none ∧ ∃ (r_Code : Int), ∃ (r_Placed : Bool), ∃ (r_Pos : Int), ∃ (r_Filed : Bool), ∃ (r_File : List UInt8), v = .agg ⟨[.int .i64 r_Code, .bool r_Placed, .int .i64 r_Pos, .bool r_Filed, vs r_File]⟩ ∧ K r_Code r_Placed r_Pos r_Filed r_File) := by
  unfold M_smithyref_Placed at H
  refine Fn.enter (by kernel_rfl) Tryd.func51 rfl Tryd.ntmps51 rfl ?_
  refine WC.seq ?_
  refine WC.region ?_
  refine WL.alloc rfl zero79 (fun g1 w1 hB1 hg1 hl1 => ?_)
  have gr1 := hg1
  refine WL.nil (WX.then_normal ?_)
  refine WC.seq ?_
  refine WC.seq ?_
  refine WC.region ?_
  refine WL.y rfl (Yld.pure tab_ok rfl) ?_
  refine WL.y rfl (Yld.pure tab_ok rfl) ?_
  refine WL.nil (WX.then_normal ?_)
  refine WC.cond rfl (fun b1 => ?_) (fun b1 => ?_)
  · replace H := H.1 (of_decide_eq_true b1)
    refine WC.seq ?_
    refine WC.region ?_
    refine WL.call rfl rfl (W_smithyref_None H) ?_
    rintro _ w2 ⟨hg2, t7_Code, t7_Placed, t7_Pos, t7_Filed, t7_File, rfl, H⟩
    have gr2 := gr_trans gr1 hg2
    have k1 := hB1.g0 hg2
    refine WL.storeW (vs := [.int .i64 t7_Code, .bool t7_Placed, .int .i64 t7_Pos, .bool t7_Filed, vs t7_File]) tab_ok rfl rfl rfl (all1c rfl (all1c rfl (all1c rfl (all1c rfl (all1c rfl all1n))))) k1 rfl rfl (fun w3 hB2 hg3 => ?_)
    have gr3 := gr_mod gr2 hg3 (Ge.le (Ge.box hl1) (Nat.le_refl _))
    refine WL.nil (WX.then_normal ?_)
    refine WC.ret (WX.then_ret ?_)
    exact WX.retc tab_ok rfl rfl rfl hB2 rfl ⟨gr3, t7_Code, t7_Placed, t7_Pos, t7_Filed, t7_File, rfl, H⟩
  · replace H := H.2 (of_decide_eq_false b1)
    refine WC.skip (WX.then_normal ?_)
    refine WC.seq ?_
    refine WC.region ?_
    refine WL.y rfl (Yld.pure tab_ok rfl) ?_
    refine WL.y rfl (Yld.pure tab_ok rfl) ?_
    refine WL.y rfl (Yld.struct (us := [.int .i64 code, .bool true, .int .i64 pos, .bool false, vs ([] : List UInt8)]) zero79 places79 rfl rfl) ?_
    refine WL.storeW (vs := [.int .i64 code, .bool true, .int .i64 pos, .bool false, vs ([] : List UInt8)]) tab_ok rfl rfl rfl (all1c rfl (all1c rfl (all1c rfl (all1c rfl (all1c rfl all1n))))) hB1 rfl rfl (fun w4 hB3 hg4 => ?_)
    have gr4 := gr_mod gr1 hg4 (Ge.le (Ge.box hl1) (Nat.le_refl _))
    refine WL.nil (WX.then_normal ?_)
    refine WC.ret ?_
    exact WX.retc tab_ok rfl rfl rfl hB3 rfl ⟨gr4, code, true, pos, false, ([] : List UInt8), rfl, H⟩

set_option maxHeartbeats 8000000 in
theorem W_smithyref_SameFault {w : World} {a_Code : Int} {a_Placed : Bool} {a_Pos : Int} {a_Filed : Bool} {a_File : List UInt8} {b_Code : Int} {b_Placed : Bool} {b_Pos : Int} {b_Filed : Bool} {b_File : List UInt8} {K : Bool → Prop} (H : M_smithyref_SameFault a_Code a_Placed a_Pos a_Filed a_File b_Code b_Placed b_Pos b_Filed b_File K) : Fn Tryd.prog 90 ⟨[.agg ⟨[.int .i64 a_Code, .bool a_Placed, .int .i64 a_Pos, .bool a_Filed, vs a_File]⟩, .agg ⟨[.int .i64 b_Code, .bool b_Placed, .int .i64 b_Pos, .bool b_Filed, vs b_File]⟩]⟩ w (fun v w' => w.grownBy w' none ∧ ∃ (r : Bool), v = .bool r ∧ K r) := by
  unfold M_smithyref_SameFault at H
  refine Fn.enter (by kernel_rfl) Tryd.func90 rfl Tryd.ntmps90 rfl ?_
  refine WC.seq ?_
  refine WC.region ?_
  refine WL.box (us := [.int .i64 a_Code, .bool a_Placed, .int .i64 a_Pos, .bool a_Filed, vs a_File]) rfl rfl rfl (fun g1 w1 hB1 hg1 hl1 => ?_)
  have gr1 := hg1
  refine WL.box (us := [.int .i64 b_Code, .bool b_Placed, .int .i64 b_Pos, .bool b_Filed, vs b_File]) rfl rfl rfl (fun g2 w2 hB2 hg2 hl2 => ?_)
  have gr2 := gr_trans gr1 hg2
  have k1 := hB1.g0 hg2
  refine WL.y rfl (Yld.pure tab_ok rfl) ?_
  refine WL.nil (WX.then_normal ?_)
  refine WC.seq ?_
  refine WC.region ?_
  refine WL.y rfl (Yld.pure tab_ok rfl) ?_
  refine WL.y rfl (Yld.bload tab_ok k1 rfl rfl rfl) ?_
  refine WL.y rfl (Yld.pure tab_ok rfl) ?_
  refine WL.y rfl (Yld.bload tab_ok hB2 rfl rfl rfl) ?_
  refine WL.y rfl (Yld.pure tab_ok rfl) ?_
  refine WL.y rfl (Yld.pure tab_ok rfl) ?_
  refine WL.midF 6 (fun L' w' => ∃ q1 : Bool, L' = [(16, .bool q1), (2, .pointer (some ⟨g1, 0, none⟩)), (3, .pointer (some ⟨g2, 0, none⟩))] ∧ q1 = ((decide (a_Code = b_Code)) && (a_Placed == b_Placed)) ∧ w2 = w') ?_ (fun hQ => ?_)
  · rintro _ _ ⟨q1, rfl, rfl, rfl⟩
    refine WL.y rfl (Yld.pure tab_ok rfl) ?_
    refine WL.midF 6 (fun L' w' => ∃ q2 : Bool, L' = [(23, .bool q2), (2, .pointer (some ⟨g1, 0, none⟩)), (3, .pointer (some ⟨g2, 0, none⟩))] ∧ q2 = (((decide (a_Code = b_Code)) && (a_Placed == b_Placed)) && (decide (a_Pos = b_Pos))) ∧ w2 = w') ?_ (fun hQ => ?_)
    · rintro _ _ ⟨q2, rfl, rfl, rfl⟩
      refine WL.y rfl (Yld.pure tab_ok rfl) ?_
      refine WL.midF 6 (fun L' w' => ∃ q3 : Bool, L' = [(30, .bool q3), (2, .pointer (some ⟨g1, 0, none⟩)), (3, .pointer (some ⟨g2, 0, none⟩))] ∧ q3 = ((((decide (a_Code = b_Code)) && (a_Placed == b_Placed)) && (decide (a_Pos = b_Pos))) && (a_Filed == b_Filed)) ∧ w2 = w') ?_ (fun hQ => ?_)
      · rintro _ _ ⟨q3, rfl, rfl, rfl⟩
        refine WL.y rfl (Yld.pure tab_ok rfl) ?_
        refine WL.midF 6 (fun L' w' => ∃ q4 : Bool, L' = [(37, .bool q4)] ∧ q4 = (((((decide (a_Code = b_Code)) && (a_Placed == b_Placed)) && (decide (a_Pos = b_Pos))) && (a_Filed == b_Filed)) && (decide (a_File = b_File))) ∧ w2 = w') ?_ (fun hQ => ?_)
        · rintro _ _ ⟨q4, rfl, rfl, rfl⟩
          refine WL.y rfl (Yld.pure tab_ok rfl) ?_
          refine WL.nil (WX.then_normal ?_)
          refine WC.ret ?_
          exact WX.ret1 rfl rfl ⟨gr2, ((((decide (a_Code = b_Code)) && (a_Placed == b_Placed)) && (decide (a_Pos = b_Pos))) && (a_Filed == b_Filed)) && (decide (a_File = b_File)), rfl, H⟩
        · clear H
          rcases Bool.eq_false_or_eq_true ((((decide (a_Code = b_Code)) && (a_Placed == b_Placed)) && (decide (a_Pos = b_Pos))) && (a_Filed == b_Filed)) with b1 | b1
          · refine WL.gyes rfl rfl (okb b1) rfl (Yld.pure tab_ok rfl) ?_
            refine WL.gyes rfl rfl (okb b1) rfl (Yld.bload tab_ok k1 rfl rfl rfl) ?_
            refine WL.gyes rfl rfl (okb b1) rfl (Yld.pure tab_ok rfl) ?_
            refine WL.gyes rfl rfl (okb b1) rfl (Yld.bload tab_ok hB2 rfl rfl rfl) ?_
            refine WL.gyes rfl rfl (okb b1) rfl (Yld.pure tab_ok rfl) ?_
            refine WL.y rfl (Yld.pickT (okb b1) rfl) ?_
            exact WL.weaken (by repeat (first | exact Sub.nil | refine Sub.cons rfl ?_)) (hQ _ _ ⟨decide (a_File = b_File), rfl, by rw [b1] <;> rfl, rfl⟩)
          · refine WL.gno rfl rfl (okb b1) rfl ?_
            refine WL.gno rfl rfl (okb b1) rfl ?_
            refine WL.gno rfl rfl (okb b1) rfl ?_
            refine WL.gno rfl rfl (okb b1) rfl ?_
            refine WL.gno rfl rfl (okb b1) rfl ?_
            refine WL.y rfl (Yld.pickF (okb b1) rfl) ?_
            exact WL.weaken (by repeat (first | exact Sub.nil | refine Sub.cons rfl ?_)) (hQ _ _ ⟨false, rfl, by rw [b1] <;> rfl, rfl⟩)
      · clear H
        rcases Bool.eq_false_or_eq_true (((decide (a_Code = b_Code)) && (a_Placed == b_Placed)) && (decide (a_Pos = b_Pos))) with b2 | b2
        · refine WL.gyes rfl rfl (okb b2) rfl (Yld.pure tab_ok rfl) ?_
          refine WL.gyes rfl rfl (okb b2) rfl (Yld.bload tab_ok k1 rfl rfl rfl) ?_
          refine WL.gyes rfl rfl (okb b2) rfl (Yld.pure tab_ok rfl) ?_
          refine WL.gyes rfl rfl (okb b2) rfl (Yld.bload tab_ok hB2 rfl rfl rfl) ?_
          refine WL.gyes rfl rfl (okb b2) rfl (Yld.beql Tryd.underlying4 rfl rfl) ?_
          refine WL.y rfl (Yld.pickT (okb b2) rfl) ?_
          exact WL.weaken (by repeat (first | exact Sub.nil | refine Sub.cons rfl ?_)) (hQ _ _ ⟨a_Filed == b_Filed, rfl, by rw [b2] <;> rfl, rfl⟩)
        · refine WL.gno rfl rfl (okb b2) rfl ?_
          refine WL.gno rfl rfl (okb b2) rfl ?_
          refine WL.gno rfl rfl (okb b2) rfl ?_
          refine WL.gno rfl rfl (okb b2) rfl ?_
          refine WL.gno rfl rfl (okb b2) rfl ?_
          refine WL.y rfl (Yld.pickF (okb b2) rfl) ?_
          exact WL.weaken (by repeat (first | exact Sub.nil | refine Sub.cons rfl ?_)) (hQ _ _ ⟨false, rfl, by rw [b2] <;> rfl, rfl⟩)
    · clear H
      rcases Bool.eq_false_or_eq_true ((decide (a_Code = b_Code)) && (a_Placed == b_Placed)) with b3 | b3
      · refine WL.gyes rfl rfl (okb b3) rfl (Yld.pure tab_ok rfl) ?_
        refine WL.gyes rfl rfl (okb b3) rfl (Yld.bload tab_ok k1 rfl rfl rfl) ?_
        refine WL.gyes rfl rfl (okb b3) rfl (Yld.pure tab_ok rfl) ?_
        refine WL.gyes rfl rfl (okb b3) rfl (Yld.bload tab_ok hB2 rfl rfl rfl) ?_
        refine WL.gyes rfl rfl (okb b3) rfl (Yld.pure tab_ok rfl) ?_
        refine WL.y rfl (Yld.pickT (okb b3) rfl) ?_
        exact WL.weaken (by repeat (first | exact Sub.nil | refine Sub.cons rfl ?_)) (hQ _ _ ⟨decide (a_Pos = b_Pos), rfl, by rw [b3] <;> rfl, rfl⟩)
      · refine WL.gno rfl rfl (okb b3) rfl ?_
        refine WL.gno rfl rfl (okb b3) rfl ?_
        refine WL.gno rfl rfl (okb b3) rfl ?_
        refine WL.gno rfl rfl (okb b3) rfl ?_
        refine WL.gno rfl rfl (okb b3) rfl ?_
        refine WL.y rfl (Yld.pickF (okb b3) rfl) ?_
        exact WL.weaken (by repeat (first | exact Sub.nil | refine Sub.cons rfl ?_)) (hQ _ _ ⟨false, rfl, by rw [b3] <;> rfl, rfl⟩)
  · clear H
    rcases Bool.eq_false_or_eq_true (decide (a_Code = b_Code)) with b4 | b4
    · refine WL.gyes rfl rfl (okb b4) rfl (Yld.pure tab_ok rfl) ?_
      refine WL.gyes rfl rfl (okb b4) rfl (Yld.bload tab_ok k1 rfl rfl rfl) ?_
      refine WL.gyes rfl rfl (okb b4) rfl (Yld.pure tab_ok rfl) ?_
      refine WL.gyes rfl rfl (okb b4) rfl (Yld.bload tab_ok hB2 rfl rfl rfl) ?_
      refine WL.gyes rfl rfl (okb b4) rfl (Yld.beql Tryd.underlying4 rfl rfl) ?_
      refine WL.y rfl (Yld.pickT (okb b4) rfl) ?_
      exact WL.weaken (by repeat (first | exact Sub.nil | refine Sub.cons rfl ?_)) (hQ _ _ ⟨a_Placed == b_Placed, rfl, by rw [b4] <;> rfl, rfl⟩)
    · refine WL.gno rfl rfl (okb b4) rfl ?_
      refine WL.gno rfl rfl (okb b4) rfl ?_
      refine WL.gno rfl rfl (okb b4) rfl ?_
      refine WL.gno rfl rfl (okb b4) rfl ?_
      refine WL.gno rfl rfl (okb b4) rfl ?_
      refine WL.y rfl (Yld.pickF (okb b4) rfl) ?_
      exact WL.weaken (by repeat (first | exact Sub.nil | refine Sub.cons rfl ?_)) (hQ _ _ ⟨false, rfl, by rw [b4] <;> rfl, rfl⟩)

end Go.Proofs.YtilphcippnfklaaDoor
 /- smithysee.sentinel: the number of one of api's variables. -/
namespace Go.Proofs.YtilphcippnfklaaDoor
open Go Go.RowKit
attribute [local irreducible] WL WC WX WQ WK WJ Yld Eff Ef0 Fn
theorem Rd.ofBlV {w : World} {g m : Nat} {e : TypeId} {us : List Value} (h : Bl w g e us) (hm : us.length = m) (hx : m ≤ maxLen) : Rd (fun v => v) w (some ⟨g, 0, none⟩) m us := ⟨by omega, hx, fun _ => ⟨_, rfl, fun j x hj => by
  have := h.cell j
  rw [hj] at this
  cases j with
  | zero => simpa [Addr.add] using this
  | succ j => simpa [Addr.add] using this⟩⟩
def errsV (S : List Nat) (w : World) (us : List Value) : Prop := us.length = 17 ∧ ∀ n, n < 17 → ErrR S w (us.getD n .nilIface) (.e n)
theorem sentinels_fn {S : List Nat} {w : World} (hG : GOK S w) (hS : ∀ n, n < 17 → n ∈ S) : Fn Tryd.prog 165 ⟨[]⟩ w fun v w' => w.grownBy w' none ∧ ∃ g us, v = .slice (some ⟨g, 0, none⟩) 17 17 ∧ Bl w' g 28 us ∧ errsV S w' us := by
  refine Fn.enter (by kernel_rfl) Tryd.func165 rfl Tryd.ntmps165 rfl ?_
  obtain ⟨v0, hc0, hE0⟩ := hG.get 0 6 (hS 0 (by omega)) rfl rfl
  obtain ⟨v1, hc1, hE1⟩ := hG.get 1 7 (hS 1 (by omega)) rfl rfl
  obtain ⟨v2, hc2, hE2⟩ := hG.get 2 8 (hS 2 (by omega)) rfl rfl
  obtain ⟨v3, hc3, hE3⟩ := hG.get 3 9 (hS 3 (by omega)) rfl rfl
  obtain ⟨v4, hc4, hE4⟩ := hG.get 4 10 (hS 4 (by omega)) rfl rfl
  obtain ⟨v5, hc5, hE5⟩ := hG.get 5 4 (hS 5 (by omega)) rfl rfl
  obtain ⟨v6, hc6, hE6⟩ := hG.get 6 11 (hS 6 (by omega)) rfl rfl
  obtain ⟨v7, hc7, hE7⟩ := hG.get 7 1 (hS 7 (by omega)) rfl rfl
  obtain ⟨v8, hc8, hE8⟩ := hG.get 8 12 (hS 8 (by omega)) rfl rfl
  obtain ⟨v9, hc9, hE9⟩ := hG.get 9 13 (hS 9 (by omega)) rfl rfl
  obtain ⟨v10, hc10, hE10⟩ := hG.get 10 3 (hS 10 (by omega)) rfl rfl
  obtain ⟨v11, hc11, hE11⟩ := hG.get 11 14 (hS 11 (by omega)) rfl rfl
  obtain ⟨v12, hc12, hE12⟩ := hG.get 12 0 (hS 12 (by omega)) rfl rfl
  obtain ⟨v13, hc13, hE13⟩ := hG.get 13 15 (hS 13 (by omega)) rfl rfl
  obtain ⟨v14, hc14, hE14⟩ := hG.get 14 16 (hS 14 (by omega)) rfl rfl
  obtain ⟨v15, hc15, hE15⟩ := hG.get 15 17 (hS 15 (by omega)) rfl rfl
  obtain ⟨v16, hc16, hE16⟩ := hG.get 16 2 (hS 16 (by omega)) rfl rfl
  repeat (first | refine WL.y rfl (Yld.cell tab_ok hc0 rfl rfl) ?_ | refine WL.y rfl (Yld.cell tab_ok hc1 rfl rfl) ?_ | refine WL.y rfl (Yld.cell tab_ok hc2 rfl rfl) ?_ | refine WL.y rfl (Yld.cell tab_ok hc3 rfl rfl) ?_ | refine WL.y rfl (Yld.cell tab_ok hc4 rfl rfl) ?_ | refine WL.y rfl (Yld.cell tab_ok hc5 rfl rfl) ?_ | refine WL.y rfl (Yld.cell tab_ok hc6 rfl rfl) ?_ | refine WL.y rfl (Yld.cell tab_ok hc7 rfl rfl) ?_ | refine WL.y rfl (Yld.cell tab_ok hc8 rfl rfl) ?_ | refine WL.y rfl (Yld.cell tab_ok hc9 rfl rfl) ?_ | refine WL.y rfl (Yld.cell tab_ok hc10 rfl rfl) ?_ | refine WL.y rfl (Yld.cell tab_ok hc11 rfl rfl) ?_ | refine WL.y rfl (Yld.cell tab_ok hc12 rfl rfl) ?_ | refine WL.y rfl (Yld.cell tab_ok hc13 rfl rfl) ?_ | refine WL.y rfl (Yld.cell tab_ok hc14 rfl rfl) ?_ | refine WL.y rfl (Yld.cell tab_ok hc15 rfl rfl) ?_ | refine WL.y rfl (Yld.cell tab_ok hc16 rfl rfl) ?_ | refine WC.seq ?_ | refine WC.block ?_ | refine WC.region ?_ | refine WL.nil ?_ | refine WX.then_normal ?_ | refine WC.skip ?_ | refine WC.exit ?_ | refine WC.ret ?_ | refine WX.then_exit ?_ | refine WX.then_ret ?_ | refine WX.block_normal ?_ | refine WX.block_ret ?_ | refine WX.block_same ?_ | refine WX.block_other rfl ?_ | refine WC.label ?_ | refine WC.scope ?_ | refine WX.scope_normal ?_ | refine WX.scope_ret ?_ | refine WX.scope_exit ?_ | refine WL.y rfl (Yld.add rfl rfl (by simp only [In]; omega)) ?_ | refine WL.y rfl (Yld.sub rfl rfl (by simp only [In]; omega)) ?_ | refine WL.y rfl (Yld.mul rfl rfl (by simp only [In]; omega)) ?_ | refine WL.y rfl (Yld.convB tab_ok rfl rfl rfl rfl) ?_ | refine WL.y rfl (Yld.conv tab_ok rfl rfl rfl (by simp only [In]; omega)) ?_ | refine WL.y rfl (Yld.quo rfl rfl (by omega) (by omega) (by simp only [In]; omega)) ?_ | refine WL.y rfl (Yld.rem rfl rfl (by omega) (by omega)) ?_ | refine WL.y rfl (Yld.shl rfl rfl (by omega)) ?_ | refine WL.y rfl (Yld.shr rfl rfl (by omega)) ?_ | refine WL.y rfl (Yld.pure tab_ok rfl) ?_ | refine WL.y rfl (Yld.fld flds_ok rfl rfl rfl) ?_ | refine WL.y rfl (Yld.max2 rfl rfl) ?_ | refine WL.y rfl (Yld.min2 rfl rfl) ?_ | refine WL.y rfl (Yld.pickV rfl rfl rfl) ?_ | refine WL.gno rfl rfl rfl rfl ?_ | refine WL.gyes rfl rfl rfl rfl (Yld.add rfl rfl (by simp only [In]; omega)) ?_ | refine WL.gyes rfl rfl rfl rfl (Yld.sub rfl rfl (by simp only [In]; omega)) ?_ | refine WL.gyes rfl rfl rfl rfl (Yld.mul rfl rfl (by simp only [In]; omega)) ?_ | refine WL.gyes rfl rfl rfl rfl (Yld.convB tab_ok rfl rfl rfl rfl) ?_ | refine WL.gyes rfl rfl rfl rfl (Yld.conv tab_ok rfl rfl rfl (by simp only [In]; omega)) ?_ | refine WL.gyes rfl rfl rfl rfl (Yld.quo rfl rfl (by omega) (by omega) (by simp only [In]; omega)) ?_ | refine WL.gyes rfl rfl rfl rfl (Yld.rem rfl rfl (by omega) (by omega)) ?_ | refine WL.gyes rfl rfl rfl rfl (Yld.shl rfl rfl (by omega)) ?_ | refine WL.gyes rfl rfl rfl rfl (Yld.shr rfl rfl (by omega)) ?_ | refine WL.gyes rfl rfl rfl rfl (Yld.pure tab_ok rfl) ?_ | refine WL.gyes rfl rfl rfl rfl (Yld.fld flds_ok rfl rfl rfl) ?_ | refine WL.gyes rfl rfl rfl rfl (Yld.max2 rfl rfl) ?_ | refine WL.gyes rfl rfl rfl rfl (Yld.min2 rfl rfl) ?_ | refine WL.gyes rfl rfl rfl rfl (Yld.pickV rfl rfl rfl) ?_ | refine WL.gun rfl rfl rfl rfl ?_)
  refine WL.lit tab_ok rfl rfl rfl (all1c (ErrR.one hE0) (all1c (ErrR.one hE1) (all1c (ErrR.one hE2) (all1c (ErrR.one hE3) (all1c (ErrR.one hE4) (all1c (ErrR.one hE5) (all1c (ErrR.one hE6) (all1c (ErrR.one hE7) (all1c (ErrR.one hE8) (all1c (ErrR.one hE9) (all1c (ErrR.one hE10) (all1c (ErrR.one hE11) (all1c (ErrR.one hE12) (all1c (ErrR.one hE13) (all1c (ErrR.one hE14) (all1c (ErrR.one hE15) (all1c (ErrR.one hE16) all1n))))))))))))))))) rfl (by omega) (fun g w' hB hg hl => ?_)
  repeat (first | refine WC.seq ?_ | refine WC.block ?_ | refine WC.region ?_ | refine WL.nil ?_ | refine WX.then_normal ?_ | refine WC.skip ?_ | refine WC.exit ?_ | refine WC.ret ?_ | refine WX.then_exit ?_ | refine WX.then_ret ?_ | refine WX.block_normal ?_ | refine WX.block_ret ?_ | refine WX.block_same ?_ | refine WX.block_other rfl ?_ | refine WC.label ?_ | refine WC.scope ?_ | refine WX.scope_normal ?_ | refine WX.scope_ret ?_ | refine WX.scope_exit ?_ | refine WL.y rfl (Yld.add rfl rfl (by simp only [In]; omega)) ?_ | refine WL.y rfl (Yld.sub rfl rfl (by simp only [In]; omega)) ?_ | refine WL.y rfl (Yld.mul rfl rfl (by simp only [In]; omega)) ?_ | refine WL.y rfl (Yld.convB tab_ok rfl rfl rfl rfl) ?_ | refine WL.y rfl (Yld.conv tab_ok rfl rfl rfl (by simp only [In]; omega)) ?_ | refine WL.y rfl (Yld.quo rfl rfl (by omega) (by omega) (by simp only [In]; omega)) ?_ | refine WL.y rfl (Yld.rem rfl rfl (by omega) (by omega)) ?_ | refine WL.y rfl (Yld.shl rfl rfl (by omega)) ?_ | refine WL.y rfl (Yld.shr rfl rfl (by omega)) ?_ | refine WL.y rfl (Yld.pure tab_ok rfl) ?_ | refine WL.y rfl (Yld.fld flds_ok rfl rfl rfl) ?_ | refine WL.y rfl (Yld.max2 rfl rfl) ?_ | refine WL.y rfl (Yld.min2 rfl rfl) ?_ | refine WL.y rfl (Yld.pickV rfl rfl rfl) ?_ | refine WL.gno rfl rfl rfl rfl ?_ | refine WL.gyes rfl rfl rfl rfl (Yld.add rfl rfl (by simp only [In]; omega)) ?_ | refine WL.gyes rfl rfl rfl rfl (Yld.sub rfl rfl (by simp only [In]; omega)) ?_ | refine WL.gyes rfl rfl rfl rfl (Yld.mul rfl rfl (by simp only [In]; omega)) ?_ | refine WL.gyes rfl rfl rfl rfl (Yld.convB tab_ok rfl rfl rfl rfl) ?_ | refine WL.gyes rfl rfl rfl rfl (Yld.conv tab_ok rfl rfl rfl (by simp only [In]; omega)) ?_ | refine WL.gyes rfl rfl rfl rfl (Yld.quo rfl rfl (by omega) (by omega) (by simp only [In]; omega)) ?_ | refine WL.gyes rfl rfl rfl rfl (Yld.rem rfl rfl (by omega) (by omega)) ?_ | refine WL.gyes rfl rfl rfl rfl (Yld.shl rfl rfl (by omega)) ?_ | refine WL.gyes rfl rfl rfl rfl (Yld.shr rfl rfl (by omega)) ?_ | refine WL.gyes rfl rfl rfl rfl (Yld.pure tab_ok rfl) ?_ | refine WL.gyes rfl rfl rfl rfl (Yld.fld flds_ok rfl rfl rfl) ?_ | refine WL.gyes rfl rfl rfl rfl (Yld.max2 rfl rfl) ?_ | refine WL.gyes rfl rfl rfl rfl (Yld.min2 rfl rfl) ?_ | refine WL.gyes rfl rfl rfl rfl (Yld.pickV rfl rfl rfl) ?_ | refine WL.gun rfl rfl rfl rfl ?_)
  refine WX.ret1 rfl rfl ⟨hg, g, _, rfl, hB, rfl, fun n hn => ?_⟩
  match n, hn with
  | 0, _ => exact hE0.grown hg
  | 1, _ => exact hE1.grown hg
  | 2, _ => exact hE2.grown hg
  | 3, _ => exact hE3.grown hg
  | 4, _ => exact hE4.grown hg
  | 5, _ => exact hE5.grown hg
  | 6, _ => exact hE6.grown hg
  | 7, _ => exact hE7.grown hg
  | 8, _ => exact hE8.grown hg
  | 9, _ => exact hE9.grown hg
  | 10, _ => exact hE10.grown hg
  | 11, _ => exact hE11.grown hg
  | 12, _ => exact hE12.grown hg
  | 13, _ => exact hE13.grown hg
  | 14, _ => exact hE14.grown hg
  | 15, _ => exact hE15.grown hg
  | 16, _ => exact hE16.grown hg
  | n + 17, hn => omega
def sentV : Er → Int
  | .ok => -1
  | .e n => 101 + n
  | .at_ _ _ => -1
def M_smithysee_sentinel (e : Er) (K : Int → Prop) : Prop := K (sentV e)
theorem W_smithysee_sentinel {S : List Nat} {w : World} {v : Value} {e : Er} {K : Int → Prop} (hG : GOK S w) (hS0 : 0 ∈ S) (hS1 : 1 ∈ S) (hS2 : 2 ∈ S) (hS3 : 3 ∈ S) (hS4 : 4 ∈ S) (hS5 : 5 ∈ S) (hS6 : 6 ∈ S) (hS7 : 7 ∈ S) (hS8 : 8 ∈ S) (hS9 : 9 ∈ S) (hS10 : 10 ∈ S) (hS11 : 11 ∈ S) (hS12 : 12 ∈ S) (hS13 : 13 ∈ S) (hS14 : 14 ∈ S) (hS15 : 15 ∈ S) (hS16 : 16 ∈ S) (hE : ErrR S w v e) (H : M_smithysee_sentinel e K) : Fn Tryd.prog 141 ⟨[v]⟩ w (fun r w' => w.grownBy w' none ∧ ∃ n : Int, r = .int .i64 n ∧ K n) := by
  have hS : ∀ n, n < 17 → n ∈ S := fun n hn => by
    match n, hn with
    | 0, _ => exact hS0
    | 1, _ => exact hS1
    | 2, _ => exact hS2
    | 3, _ => exact hS3
    | 4, _ => exact hS4
    | 5, _ => exact hS5
    | 6, _ => exact hS6
    | 7, _ => exact hS7
    | 8, _ => exact hS8
    | 9, _ => exact hS9
    | 10, _ => exact hS10
    | 11, _ => exact hS11
    | 12, _ => exact hS12
    | 13, _ => exact hS13
    | 14, _ => exact hS14
    | 15, _ => exact hS15
    | 16, _ => exact hS16
    | n + 17, hn => omega
  unfold M_smithysee_sentinel at H
  refine Fn.enter (by kernel_rfl) Tryd.func141 rfl Tryd.ntmps141 rfl ?_
  repeat (first | refine WC.seq ?_ | refine WC.block ?_ | refine WC.region ?_ | refine WL.nil ?_ | refine WX.then_normal ?_ | refine WC.skip ?_ | refine WC.exit ?_ | refine WC.ret ?_ | refine WX.then_exit ?_ | refine WX.then_ret ?_ | refine WX.block_normal ?_ | refine WX.block_ret ?_ | refine WX.block_same ?_ | refine WX.block_other rfl ?_ | refine WC.label ?_ | refine WC.scope ?_ | refine WX.scope_normal ?_ | refine WX.scope_ret ?_ | refine WX.scope_exit ?_ | refine WL.y rfl (Yld.add rfl rfl (by simp only [In]; omega)) ?_ | refine WL.y rfl (Yld.sub rfl rfl (by simp only [In]; omega)) ?_ | refine WL.y rfl (Yld.mul rfl rfl (by simp only [In]; omega)) ?_ | refine WL.y rfl (Yld.convB tab_ok rfl rfl rfl rfl) ?_ | refine WL.y rfl (Yld.conv tab_ok rfl rfl rfl (by simp only [In]; omega)) ?_ | refine WL.y rfl (Yld.quo rfl rfl (by omega) (by omega) (by simp only [In]; omega)) ?_ | refine WL.y rfl (Yld.rem rfl rfl (by omega) (by omega)) ?_ | refine WL.y rfl (Yld.shl rfl rfl (by omega)) ?_ | refine WL.y rfl (Yld.shr rfl rfl (by omega)) ?_ | refine WL.y rfl (Yld.pure tab_ok rfl) ?_ | refine WL.y rfl (Yld.fld flds_ok rfl rfl rfl) ?_ | refine WL.y rfl (Yld.max2 rfl rfl) ?_ | refine WL.y rfl (Yld.min2 rfl rfl) ?_ | refine WL.y rfl (Yld.pickV rfl rfl rfl) ?_ | refine WL.gno rfl rfl rfl rfl ?_ | refine WL.gyes rfl rfl rfl rfl (Yld.add rfl rfl (by simp only [In]; omega)) ?_ | refine WL.gyes rfl rfl rfl rfl (Yld.sub rfl rfl (by simp only [In]; omega)) ?_ | refine WL.gyes rfl rfl rfl rfl (Yld.mul rfl rfl (by simp only [In]; omega)) ?_ | refine WL.gyes rfl rfl rfl rfl (Yld.convB tab_ok rfl rfl rfl rfl) ?_ | refine WL.gyes rfl rfl rfl rfl (Yld.conv tab_ok rfl rfl rfl (by simp only [In]; omega)) ?_ | refine WL.gyes rfl rfl rfl rfl (Yld.quo rfl rfl (by omega) (by omega) (by simp only [In]; omega)) ?_ | refine WL.gyes rfl rfl rfl rfl (Yld.rem rfl rfl (by omega) (by omega)) ?_ | refine WL.gyes rfl rfl rfl rfl (Yld.shl rfl rfl (by omega)) ?_ | refine WL.gyes rfl rfl rfl rfl (Yld.shr rfl rfl (by omega)) ?_ | refine WL.gyes rfl rfl rfl rfl (Yld.pure tab_ok rfl) ?_ | refine WL.gyes rfl rfl rfl rfl (Yld.fld flds_ok rfl rfl rfl) ?_ | refine WL.gyes rfl rfl rfl rfl (Yld.max2 rfl rfl) ?_ | refine WL.gyes rfl rfl rfl rfl (Yld.min2 rfl rfl) ?_ | refine WL.gyes rfl rfl rfl rfl (Yld.pickV rfl rfl rfl) ?_ | refine WL.gun rfl rfl rfl rfl ?_)
  refine WL.call rfl rfl (sentinels_fn hG hS) ?_
  rintro _ w1 ⟨hg1, g, us, rfl, hB, hlen, hus⟩
  have hR := Rd.ofBlV hB hlen (by simp [maxLen])
  have hE1 := hE.grown hg1
  repeat (first | refine WC.seq ?_ | refine WC.block ?_ | refine WC.region ?_ | refine WL.nil ?_ | refine WX.then_normal ?_ | refine WC.skip ?_ | refine WC.exit ?_ | refine WC.ret ?_ | refine WX.then_exit ?_ | refine WX.then_ret ?_ | refine WX.block_normal ?_ | refine WX.block_ret ?_ | refine WX.block_same ?_ | refine WX.block_other rfl ?_ | refine WC.label ?_ | refine WC.scope ?_ | refine WX.scope_normal ?_ | refine WX.scope_ret ?_ | refine WX.scope_exit ?_ | refine WL.y rfl (Yld.add rfl rfl (by simp only [In]; omega)) ?_ | refine WL.y rfl (Yld.sub rfl rfl (by simp only [In]; omega)) ?_ | refine WL.y rfl (Yld.mul rfl rfl (by simp only [In]; omega)) ?_ | refine WL.y rfl (Yld.convB tab_ok rfl rfl rfl rfl) ?_ | refine WL.y rfl (Yld.conv tab_ok rfl rfl rfl (by simp only [In]; omega)) ?_ | refine WL.y rfl (Yld.quo rfl rfl (by omega) (by omega) (by simp only [In]; omega)) ?_ | refine WL.y rfl (Yld.rem rfl rfl (by omega) (by omega)) ?_ | refine WL.y rfl (Yld.shl rfl rfl (by omega)) ?_ | refine WL.y rfl (Yld.shr rfl rfl (by omega)) ?_ | refine WL.y rfl (Yld.pure tab_ok rfl) ?_ | refine WL.y rfl (Yld.fld flds_ok rfl rfl rfl) ?_ | refine WL.y rfl (Yld.max2 rfl rfl) ?_ | refine WL.y rfl (Yld.min2 rfl rfl) ?_ | refine WL.y rfl (Yld.pickV rfl rfl rfl) ?_ | refine WL.gno rfl rfl rfl rfl ?_ | refine WL.gyes rfl rfl rfl rfl (Yld.add rfl rfl (by simp only [In]; omega)) ?_ | refine WL.gyes rfl rfl rfl rfl (Yld.sub rfl rfl (by simp only [In]; omega)) ?_ | refine WL.gyes rfl rfl rfl rfl (Yld.mul rfl rfl (by simp only [In]; omega)) ?_ | refine WL.gyes rfl rfl rfl rfl (Yld.convB tab_ok rfl rfl rfl rfl) ?_ | refine WL.gyes rfl rfl rfl rfl (Yld.conv tab_ok rfl rfl rfl (by simp only [In]; omega)) ?_ | refine WL.gyes rfl rfl rfl rfl (Yld.quo rfl rfl (by omega) (by omega) (by simp only [In]; omega)) ?_ | refine WL.gyes rfl rfl rfl rfl (Yld.rem rfl rfl (by omega) (by omega)) ?_ | refine WL.gyes rfl rfl rfl rfl (Yld.shl rfl rfl (by omega)) ?_ | refine WL.gyes rfl rfl rfl rfl (Yld.shr rfl rfl (by omega)) ?_ | refine WL.gyes rfl rfl rfl rfl (Yld.pure tab_ok rfl) ?_ | refine WL.gyes rfl rfl rfl rfl (Yld.fld flds_ok rfl rfl rfl) ?_ | refine WL.gyes rfl rfl rfl rfl (Yld.max2 rfl rfl) ?_ | refine WL.gyes rfl rfl rfl rfl (Yld.min2 rfl rfl) ?_ | refine WL.gyes rfl rfl rfl rfl (Yld.pickV rfl rfl rfl) ?_ | refine WL.gun rfl rfl rfl rfl ?_)
  refine WC.loopF (fun n' L' w' => ∃ i : Nat, n' = 17 - i ∧ L' = [(4, vi i), (3, .slice (some ⟨g, 0, none⟩) 17 17), (0, v)] ∧ i ≤ 17 ∧ (∀ j, j < i → e ≠ .e j) ∧ w1 = w') _ _ ⟨0, rfl, rfl, by omega, fun j hj => by omega, rfl⟩ (by repeat (first | exact Sub.nil | refine Sub.cons rfl ?_)) ?_
  rintro _ _ _ ⟨i, rfl, rfl, hi, hne, rfl⟩
  repeat (first | refine WC.seq ?_ | refine WC.block ?_ | refine WC.region ?_ | refine WL.nil ?_ | refine WX.then_normal ?_ | refine WC.skip ?_ | refine WC.exit ?_ | refine WC.ret ?_ | refine WX.then_exit ?_ | refine WX.then_ret ?_ | refine WX.block_normal ?_ | refine WX.block_ret ?_ | refine WX.block_same ?_ | refine WX.block_other rfl ?_ | refine WC.label ?_ | refine WC.scope ?_ | refine WX.scope_normal ?_ | refine WX.scope_ret ?_ | refine WX.scope_exit ?_ | refine WL.y rfl (Yld.add rfl rfl (by simp only [In]; omega)) ?_ | refine WL.y rfl (Yld.sub rfl rfl (by simp only [In]; omega)) ?_ | refine WL.y rfl (Yld.mul rfl rfl (by simp only [In]; omega)) ?_ | refine WL.y rfl (Yld.convB tab_ok rfl rfl rfl rfl) ?_ | refine WL.y rfl (Yld.conv tab_ok rfl rfl rfl (by simp only [In]; omega)) ?_ | refine WL.y rfl (Yld.quo rfl rfl (by omega) (by omega) (by simp only [In]; omega)) ?_ | refine WL.y rfl (Yld.rem rfl rfl (by omega) (by omega)) ?_ | refine WL.y rfl (Yld.shl rfl rfl (by omega)) ?_ | refine WL.y rfl (Yld.shr rfl rfl (by omega)) ?_ | refine WL.y rfl (Yld.pure tab_ok rfl) ?_ | refine WL.y rfl (Yld.fld flds_ok rfl rfl rfl) ?_ | refine WL.y rfl (Yld.max2 rfl rfl) ?_ | refine WL.y rfl (Yld.min2 rfl rfl) ?_ | refine WL.y rfl (Yld.pickV rfl rfl rfl) ?_ | refine WL.gno rfl rfl rfl rfl ?_ | refine WL.gyes rfl rfl rfl rfl (Yld.add rfl rfl (by simp only [In]; omega)) ?_ | refine WL.gyes rfl rfl rfl rfl (Yld.sub rfl rfl (by simp only [In]; omega)) ?_ | refine WL.gyes rfl rfl rfl rfl (Yld.mul rfl rfl (by simp only [In]; omega)) ?_ | refine WL.gyes rfl rfl rfl rfl (Yld.convB tab_ok rfl rfl rfl rfl) ?_ | refine WL.gyes rfl rfl rfl rfl (Yld.conv tab_ok rfl rfl rfl (by simp only [In]; omega)) ?_ | refine WL.gyes rfl rfl rfl rfl (Yld.quo rfl rfl (by omega) (by omega) (by simp only [In]; omega)) ?_ | refine WL.gyes rfl rfl rfl rfl (Yld.rem rfl rfl (by omega) (by omega)) ?_ | refine WL.gyes rfl rfl rfl rfl (Yld.shl rfl rfl (by omega)) ?_ | refine WL.gyes rfl rfl rfl rfl (Yld.shr rfl rfl (by omega)) ?_ | refine WL.gyes rfl rfl rfl rfl (Yld.pure tab_ok rfl) ?_ | refine WL.gyes rfl rfl rfl rfl (Yld.fld flds_ok rfl rfl rfl) ?_ | refine WL.gyes rfl rfl rfl rfl (Yld.max2 rfl rfl) ?_ | refine WL.gyes rfl rfl rfl rfl (Yld.min2 rfl rfl) ?_ | refine WL.gyes rfl rfl rfl rfl (Yld.pickV rfl rfl rfl) ?_ | refine WL.gun rfl rfl rfl rfl ?_)
  refine WC.cond rfl (fun h => ?_) (fun h => ?_)
  · simp only [decide_eq_true_eq] at h
    have hi' : i < 17 := by omega
    repeat (first | refine WL.y rfl (Yld.iaddrN tab_ok hR rfl rfl hlen.symm rfl (by omega)) ?_ | refine WL.y rfl (Yld.iload .nilIface tab_ok hR rfl rfl (by omega)) ?_ | refine WC.seq ?_ | refine WC.block ?_ | refine WC.region ?_ | refine WL.nil ?_ | refine WX.then_normal ?_ | refine WC.skip ?_ | refine WC.exit ?_ | refine WC.ret ?_ | refine WX.then_exit ?_ | refine WX.then_ret ?_ | refine WX.block_normal ?_ | refine WX.block_ret ?_ | refine WX.block_same ?_ | refine WX.block_other rfl ?_ | refine WC.label ?_ | refine WC.scope ?_ | refine WX.scope_normal ?_ | refine WX.scope_ret ?_ | refine WX.scope_exit ?_ | refine WL.y rfl (Yld.add rfl rfl (by simp only [In]; omega)) ?_ | refine WL.y rfl (Yld.sub rfl rfl (by simp only [In]; omega)) ?_ | refine WL.y rfl (Yld.mul rfl rfl (by simp only [In]; omega)) ?_ | refine WL.y rfl (Yld.convB tab_ok rfl rfl rfl rfl) ?_ | refine WL.y rfl (Yld.conv tab_ok rfl rfl rfl (by simp only [In]; omega)) ?_ | refine WL.y rfl (Yld.quo rfl rfl (by omega) (by omega) (by simp only [In]; omega)) ?_ | refine WL.y rfl (Yld.rem rfl rfl (by omega) (by omega)) ?_ | refine WL.y rfl (Yld.shl rfl rfl (by omega)) ?_ | refine WL.y rfl (Yld.shr rfl rfl (by omega)) ?_ | refine WL.y rfl (Yld.pure tab_ok rfl) ?_ | refine WL.y rfl (Yld.fld flds_ok rfl rfl rfl) ?_ | refine WL.y rfl (Yld.max2 rfl rfl) ?_ | refine WL.y rfl (Yld.min2 rfl rfl) ?_ | refine WL.y rfl (Yld.pickV rfl rfl rfl) ?_ | refine WL.gno rfl rfl rfl rfl ?_ | refine WL.gyes rfl rfl rfl rfl (Yld.add rfl rfl (by simp only [In]; omega)) ?_ | refine WL.gyes rfl rfl rfl rfl (Yld.sub rfl rfl (by simp only [In]; omega)) ?_ | refine WL.gyes rfl rfl rfl rfl (Yld.mul rfl rfl (by simp only [In]; omega)) ?_ | refine WL.gyes rfl rfl rfl rfl (Yld.convB tab_ok rfl rfl rfl rfl) ?_ | refine WL.gyes rfl rfl rfl rfl (Yld.conv tab_ok rfl rfl rfl (by simp only [In]; omega)) ?_ | refine WL.gyes rfl rfl rfl rfl (Yld.quo rfl rfl (by omega) (by omega) (by simp only [In]; omega)) ?_ | refine WL.gyes rfl rfl rfl rfl (Yld.rem rfl rfl (by omega) (by omega)) ?_ | refine WL.gyes rfl rfl rfl rfl (Yld.shl rfl rfl (by omega)) ?_ | refine WL.gyes rfl rfl rfl rfl (Yld.shr rfl rfl (by omega)) ?_ | refine WL.gyes rfl rfl rfl rfl (Yld.pure tab_ok rfl) ?_ | refine WL.gyes rfl rfl rfl rfl (Yld.fld flds_ok rfl rfl rfl) ?_ | refine WL.gyes rfl rfl rfl rfl (Yld.max2 rfl rfl) ?_ | refine WL.gyes rfl rfl rfl rfl (Yld.min2 rfl rfl) ?_ | refine WL.gyes rfl rfl rfl rfl (Yld.pickV rfl rfl rfl) ?_ | refine WL.gun rfl rfl rfl rfl ?_)
    refine WL.call rfl rfl (W_smithysee_Alike (K := fun b => b = decide (e = .e i)) hE1 (hus i hi') ?_) ?_
    · unfold M_smithysee_Alike
      cases e <;> simp
    rintro _ _ ⟨rfl, b, rfl, hb⟩
    subst hb
    refine WL.nil ?_
    repeat (first | refine WC.seq ?_ | refine WC.block ?_ | refine WC.region ?_ | refine WL.nil ?_ | refine WX.then_normal ?_ | refine WC.skip ?_ | refine WC.exit ?_ | refine WC.ret ?_ | refine WX.then_exit ?_ | refine WX.then_ret ?_ | refine WX.block_normal ?_ | refine WX.block_ret ?_ | refine WX.block_same ?_ | refine WX.block_other rfl ?_ | refine WC.label ?_ | refine WC.scope ?_ | refine WX.scope_normal ?_ | refine WX.scope_ret ?_ | refine WX.scope_exit ?_ | refine WL.y rfl (Yld.add rfl rfl (by simp only [In]; omega)) ?_ | refine WL.y rfl (Yld.sub rfl rfl (by simp only [In]; omega)) ?_ | refine WL.y rfl (Yld.mul rfl rfl (by simp only [In]; omega)) ?_ | refine WL.y rfl (Yld.convB tab_ok rfl rfl rfl rfl) ?_ | refine WL.y rfl (Yld.conv tab_ok rfl rfl rfl (by simp only [In]; omega)) ?_ | refine WL.y rfl (Yld.quo rfl rfl (by omega) (by omega) (by simp only [In]; omega)) ?_ | refine WL.y rfl (Yld.rem rfl rfl (by omega) (by omega)) ?_ | refine WL.y rfl (Yld.shl rfl rfl (by omega)) ?_ | refine WL.y rfl (Yld.shr rfl rfl (by omega)) ?_ | refine WL.y rfl (Yld.pure tab_ok rfl) ?_ | refine WL.y rfl (Yld.fld flds_ok rfl rfl rfl) ?_ | refine WL.y rfl (Yld.max2 rfl rfl) ?_ | refine WL.y rfl (Yld.min2 rfl rfl) ?_ | refine WL.y rfl (Yld.pickV rfl rfl rfl) ?_ | refine WL.gno rfl rfl rfl rfl ?_ | refine WL.gyes rfl rfl rfl rfl (Yld.add rfl rfl (by simp only [In]; omega)) ?_ | refine WL.gyes rfl rfl rfl rfl (Yld.sub rfl rfl (by simp only [In]; omega)) ?_ | refine WL.gyes rfl rfl rfl rfl (Yld.mul rfl rfl (by simp only [In]; omega)) ?_ | refine WL.gyes rfl rfl rfl rfl (Yld.convB tab_ok rfl rfl rfl rfl) ?_ | refine WL.gyes rfl rfl rfl rfl (Yld.conv tab_ok rfl rfl rfl (by simp only [In]; omega)) ?_ | refine WL.gyes rfl rfl rfl rfl (Yld.quo rfl rfl (by omega) (by omega) (by simp only [In]; omega)) ?_ | refine WL.gyes rfl rfl rfl rfl (Yld.rem rfl rfl (by omega) (by omega)) ?_ | refine WL.gyes rfl rfl rfl rfl (Yld.shl rfl rfl (by omega)) ?_ | refine WL.gyes rfl rfl rfl rfl (Yld.shr rfl rfl (by omega)) ?_ | refine WL.gyes rfl rfl rfl rfl (Yld.pure tab_ok rfl) ?_ | refine WL.gyes rfl rfl rfl rfl (Yld.fld flds_ok rfl rfl rfl) ?_ | refine WL.gyes rfl rfl rfl rfl (Yld.max2 rfl rfl) ?_ | refine WL.gyes rfl rfl rfl rfl (Yld.min2 rfl rfl) ?_ | refine WL.gyes rfl rfl rfl rfl (Yld.pickV rfl rfl rfl) ?_ | refine WL.gun rfl rfl rfl rfl ?_)
    refine WC.cond rfl (fun h2 => ?_) (fun h2 => ?_)
    · have h3 : e = .e i := of_decide_eq_true h2
      subst h3
      repeat (first | refine WC.seq ?_ | refine WC.block ?_ | refine WC.region ?_ | refine WL.nil ?_ | refine WX.then_normal ?_ | refine WC.skip ?_ | refine WC.exit ?_ | refine WC.ret ?_ | refine WX.then_exit ?_ | refine WX.then_ret ?_ | refine WX.block_normal ?_ | refine WX.block_ret ?_ | refine WX.block_same ?_ | refine WX.block_other rfl ?_ | refine WC.label ?_ | refine WC.scope ?_ | refine WX.scope_normal ?_ | refine WX.scope_ret ?_ | refine WX.scope_exit ?_ | refine WL.y rfl (Yld.add rfl rfl (by simp only [In]; omega)) ?_ | refine WL.y rfl (Yld.sub rfl rfl (by simp only [In]; omega)) ?_ | refine WL.y rfl (Yld.mul rfl rfl (by simp only [In]; omega)) ?_ | refine WL.y rfl (Yld.convB tab_ok rfl rfl rfl rfl) ?_ | refine WL.y rfl (Yld.conv tab_ok rfl rfl rfl (by simp only [In]; omega)) ?_ | refine WL.y rfl (Yld.quo rfl rfl (by omega) (by omega) (by simp only [In]; omega)) ?_ | refine WL.y rfl (Yld.rem rfl rfl (by omega) (by omega)) ?_ | refine WL.y rfl (Yld.shl rfl rfl (by omega)) ?_ | refine WL.y rfl (Yld.shr rfl rfl (by omega)) ?_ | refine WL.y rfl (Yld.pure tab_ok rfl) ?_ | refine WL.y rfl (Yld.fld flds_ok rfl rfl rfl) ?_ | refine WL.y rfl (Yld.max2 rfl rfl) ?_ | refine WL.y rfl (Yld.min2 rfl rfl) ?_ | refine WL.y rfl (Yld.pickV rfl rfl rfl) ?_ | refine WL.gno rfl rfl rfl rfl ?_ | refine WL.gyes rfl rfl rfl rfl (Yld.add rfl rfl (by simp only [In]; omega)) ?_ | refine WL.gyes rfl rfl rfl rfl (Yld.sub rfl rfl (by simp only [In]; omega)) ?_ | refine WL.gyes rfl rfl rfl rfl (Yld.mul rfl rfl (by simp only [In]; omega)) ?_ | refine WL.gyes rfl rfl rfl rfl (Yld.convB tab_ok rfl rfl rfl rfl) ?_ | refine WL.gyes rfl rfl rfl rfl (Yld.conv tab_ok rfl rfl rfl (by simp only [In]; omega)) ?_ | refine WL.gyes rfl rfl rfl rfl (Yld.quo rfl rfl (by omega) (by omega) (by simp only [In]; omega)) ?_ | refine WL.gyes rfl rfl rfl rfl (Yld.rem rfl rfl (by omega) (by omega)) ?_ | refine WL.gyes rfl rfl rfl rfl (Yld.shl rfl rfl (by omega)) ?_ | refine WL.gyes rfl rfl rfl rfl (Yld.shr rfl rfl (by omega)) ?_ | refine WL.gyes rfl rfl rfl rfl (Yld.pure tab_ok rfl) ?_ | refine WL.gyes rfl rfl rfl rfl (Yld.fld flds_ok rfl rfl rfl) ?_ | refine WL.gyes rfl rfl rfl rfl (Yld.max2 rfl rfl) ?_ | refine WL.gyes rfl rfl rfl rfl (Yld.min2 rfl rfl) ?_ | refine WL.gyes rfl rfl rfl rfl (Yld.pickV rfl rfl rfl) ?_ | refine WL.gun rfl rfl rfl rfl ?_)
      exact WX.ret1 rfl rfl ⟨hg1, _, rfl, H⟩
    · have h3 : e ≠ .e i := of_decide_eq_false h2
      repeat (first | refine WC.seq ?_ | refine WC.block ?_ | refine WC.region ?_ | refine WL.nil ?_ | refine WX.then_normal ?_ | refine WC.skip ?_ | refine WC.exit ?_ | refine WC.ret ?_ | refine WX.then_exit ?_ | refine WX.then_ret ?_ | refine WX.block_normal ?_ | refine WX.block_ret ?_ | refine WX.block_same ?_ | refine WX.block_other rfl ?_ | refine WC.label ?_ | refine WC.scope ?_ | refine WX.scope_normal ?_ | refine WX.scope_ret ?_ | refine WX.scope_exit ?_ | refine WL.y rfl (Yld.add rfl rfl (by simp only [In]; omega)) ?_ | refine WL.y rfl (Yld.sub rfl rfl (by simp only [In]; omega)) ?_ | refine WL.y rfl (Yld.mul rfl rfl (by simp only [In]; omega)) ?_ | refine WL.y rfl (Yld.convB tab_ok rfl rfl rfl rfl) ?_ | refine WL.y rfl (Yld.conv tab_ok rfl rfl rfl (by simp only [In]; omega)) ?_ | refine WL.y rfl (Yld.quo rfl rfl (by omega) (by omega) (by simp only [In]; omega)) ?_ | refine WL.y rfl (Yld.rem rfl rfl (by omega) (by omega)) ?_ | refine WL.y rfl (Yld.shl rfl rfl (by omega)) ?_ | refine WL.y rfl (Yld.shr rfl rfl (by omega)) ?_ | refine WL.y rfl (Yld.pure tab_ok rfl) ?_ | refine WL.y rfl (Yld.fld flds_ok rfl rfl rfl) ?_ | refine WL.y rfl (Yld.max2 rfl rfl) ?_ | refine WL.y rfl (Yld.min2 rfl rfl) ?_ | refine WL.y rfl (Yld.pickV rfl rfl rfl) ?_ | refine WL.gno rfl rfl rfl rfl ?_ | refine WL.gyes rfl rfl rfl rfl (Yld.add rfl rfl (by simp only [In]; omega)) ?_ | refine WL.gyes rfl rfl rfl rfl (Yld.sub rfl rfl (by simp only [In]; omega)) ?_ | refine WL.gyes rfl rfl rfl rfl (Yld.mul rfl rfl (by simp only [In]; omega)) ?_ | refine WL.gyes rfl rfl rfl rfl (Yld.convB tab_ok rfl rfl rfl rfl) ?_ | refine WL.gyes rfl rfl rfl rfl (Yld.conv tab_ok rfl rfl rfl (by simp only [In]; omega)) ?_ | refine WL.gyes rfl rfl rfl rfl (Yld.quo rfl rfl (by omega) (by omega) (by simp only [In]; omega)) ?_ | refine WL.gyes rfl rfl rfl rfl (Yld.rem rfl rfl (by omega) (by omega)) ?_ | refine WL.gyes rfl rfl rfl rfl (Yld.shl rfl rfl (by omega)) ?_ | refine WL.gyes rfl rfl rfl rfl (Yld.shr rfl rfl (by omega)) ?_ | refine WL.gyes rfl rfl rfl rfl (Yld.pure tab_ok rfl) ?_ | refine WL.gyes rfl rfl rfl rfl (Yld.fld flds_ok rfl rfl rfl) ?_ | refine WL.gyes rfl rfl rfl rfl (Yld.max2 rfl rfl) ?_ | refine WL.gyes rfl rfl rfl rfl (Yld.min2 rfl rfl) ?_ | refine WL.gyes rfl rfl rfl rfl (Yld.pickV rfl rfl rfl) ?_ | refine WL.gun rfl rfl rfl rfl ?_)
      refine WX.roundF _ ⟨i + 1, rfl, rfl, by omega, fun j hj => ?_, rfl⟩ (by repeat (first | exact Sub.nil | refine Sub.cons rfl ?_)) (by omega)
      rcases Nat.lt_or_ge j i with hji | hji
      · exact hne j hji
      · obtain rfl : j = i := by omega
        exact h3
  · simp only [decide_eq_false_iff_not] at h
    repeat (first | refine WC.seq ?_ | refine WC.block ?_ | refine WC.region ?_ | refine WL.nil ?_ | refine WX.then_normal ?_ | refine WC.skip ?_ | refine WC.exit ?_ | refine WC.ret ?_ | refine WX.then_exit ?_ | refine WX.then_ret ?_ | refine WX.block_normal ?_ | refine WX.block_ret ?_ | refine WX.block_same ?_ | refine WX.block_other rfl ?_ | refine WC.label ?_ | refine WC.scope ?_ | refine WX.scope_normal ?_ | refine WX.scope_ret ?_ | refine WX.scope_exit ?_ | refine WL.y rfl (Yld.add rfl rfl (by simp only [In]; omega)) ?_ | refine WL.y rfl (Yld.sub rfl rfl (by simp only [In]; omega)) ?_ | refine WL.y rfl (Yld.mul rfl rfl (by simp only [In]; omega)) ?_ | refine WL.y rfl (Yld.convB tab_ok rfl rfl rfl rfl) ?_ | refine WL.y rfl (Yld.conv tab_ok rfl rfl rfl (by simp only [In]; omega)) ?_ | refine WL.y rfl (Yld.quo rfl rfl (by omega) (by omega) (by simp only [In]; omega)) ?_ | refine WL.y rfl (Yld.rem rfl rfl (by omega) (by omega)) ?_ | refine WL.y rfl (Yld.shl rfl rfl (by omega)) ?_ | refine WL.y rfl (Yld.shr rfl rfl (by omega)) ?_ | refine WL.y rfl (Yld.pure tab_ok rfl) ?_ | refine WL.y rfl (Yld.fld flds_ok rfl rfl rfl) ?_ | refine WL.y rfl (Yld.max2 rfl rfl) ?_ | refine WL.y rfl (Yld.min2 rfl rfl) ?_ | refine WL.y rfl (Yld.pickV rfl rfl rfl) ?_ | refine WL.gno rfl rfl rfl rfl ?_ | refine WL.gyes rfl rfl rfl rfl (Yld.add rfl rfl (by simp only [In]; omega)) ?_ | refine WL.gyes rfl rfl rfl rfl (Yld.sub rfl rfl (by simp only [In]; omega)) ?_ | refine WL.gyes rfl rfl rfl rfl (Yld.mul rfl rfl (by simp only [In]; omega)) ?_ | refine WL.gyes rfl rfl rfl rfl (Yld.convB tab_ok rfl rfl rfl rfl) ?_ | refine WL.gyes rfl rfl rfl rfl (Yld.conv tab_ok rfl rfl rfl (by simp only [In]; omega)) ?_ | refine WL.gyes rfl rfl rfl rfl (Yld.quo rfl rfl (by omega) (by omega) (by simp only [In]; omega)) ?_ | refine WL.gyes rfl rfl rfl rfl (Yld.rem rfl rfl (by omega) (by omega)) ?_ | refine WL.gyes rfl rfl rfl rfl (Yld.shl rfl rfl (by omega)) ?_ | refine WL.gyes rfl rfl rfl rfl (Yld.shr rfl rfl (by omega)) ?_ | refine WL.gyes rfl rfl rfl rfl (Yld.pure tab_ok rfl) ?_ | refine WL.gyes rfl rfl rfl rfl (Yld.fld flds_ok rfl rfl rfl) ?_ | refine WL.gyes rfl rfl rfl rfl (Yld.max2 rfl rfl) ?_ | refine WL.gyes rfl rfl rfl rfl (Yld.min2 rfl rfl) ?_ | refine WL.gyes rfl rfl rfl rfl (Yld.pickV rfl rfl rfl) ?_ | refine WL.gun rfl rfl rfl rfl ?_)
    refine WX.ret1 rfl rfl ⟨hg1, _, rfl, ?_⟩
    have : sentV e = -1 := by
      cases e with
      | e n =>
        by_cases hn : n < 17
        · exact absurd rfl (hne n (by omega))
        · exact absurd (ErV.lt hE.1) hn
      | ok => rfl
      | at_ p n => rfl
    rw [this] at H
    exact H
end Go.Proofs.YtilphcippnfklaaDoor
 