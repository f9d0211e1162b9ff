/- A quick check of a drawn region's chain: who waits for whom, as sets of bits. -/
import Derived.Test.YtfibkajdahaggaaDoorMore6
namespace Go.Proofs.YtfibkajdahaggaaDoor
open Go Go.RowKit
theorem reach_mono {md : Region.Mode} {ops : Array Oper} : ∀ (f g j k : Nat), f ≤ g → reach md ops f j k = true → reach md ops g j k = true
  | 0, _, _, _, _, h => by simp [reach] at h
  | f + 1, 0, _, _, hg, _ => by omega
  | f + 1, g + 1, j, k, hg, h => by
    unfold reach at h ⊢
    cases ho : ops[j]? with
    | none => rw [ho] at h; cases h
    | some oj =>
      rw [ho] at h
      simp only at h ⊢
      obtain ⟨e, he, h2⟩ := Array.any_eq_true'.1 h
      refine Array.any_eq_true'.2 ⟨e, he, ?_⟩
      simp only [Bool.and_eq_true, Bool.or_eq_true] at h2 ⊢
      exact ⟨h2.1, h2.2.imp id (fun h3 => reach_mono f g _ _ (by omega) h3)⟩
def emask (md : Region.Mode) (acc : List Nat) : List Edge → Nat
  | [] => 0
  | e :: es => bif Region.binds md e then Nat.lor (Nat.lor (Nat.shiftLeft 1 e.on) (acc.getD e.on 0)) (emask md acc es) else emask md acc es
def maskL (md : Region.Mode) : List Oper → List Nat → List Nat
  | [], acc => acc
  | o :: l, acc => maskL md l (acc ++ [emask md acc o.after.toList])
theorem emask_spec {md : Region.Mode} {acc : List Nat} : ∀ {es : List Edge} {k : Nat}, (emask md acc es).testBit k = true → ∃ e ∈ es, Region.binds md e = true ∧ (e.on = k ∨ (acc.getD e.on 0).testBit k = true)
  | [], k, h => by simp [emask] at h
  | e :: es, k, h => by
    unfold emask at h
    cases hb : Region.binds md e with
    | false =>
      rw [hb] at h
      obtain ⟨e', he', h'⟩ := emask_spec (by simpa using h)
      exact ⟨e', by simp [he'], h'⟩
    | true =>
      rw [hb] at h
      simp only [cond_true] at h
      have h : ((1 <<< e.on ||| acc.getD e.on 0) ||| emask md acc es).testBit k = true := h
      rw [Nat.testBit_or, Nat.testBit_or, Bool.or_eq_true, Bool.or_eq_true] at h
      rcases h with (h | h) | h
      · refine ⟨e, by simp, hb, .inl ?_⟩
        rw [Nat.testBit_shiftLeft] at h
        simp only [Bool.and_eq_true, decide_eq_true_eq, ge_iff_le] at h
        have h2 := h.2
        rw [Nat.testBit_one_eq_true_iff_self_eq_zero] at h2
        omega
      · exact ⟨e, by simp, hb, .inr h⟩
      · obtain ⟨e', he', h'⟩ := emask_spec h
        exact ⟨e', by simp [he'], h'⟩
def MaskOk (md : Region.Mode) (ops : Array Oper) (acc : List Nat) : Prop := ∀ j k, (acc.getD j 0).testBit k = true → reach md ops (j + 1) j k = true
def backL (md : Region.Mode) : Nat → List Oper → Bool
  | _, [] => true
  | k, o :: l => o.after.toList.all (fun e => !Region.binds md e || Nat.blt e.on k) && backL md (k + 1) l
theorem maskL_ok {md : Region.Mode} {ops : Array Oper} : ∀ (l : List Oper) (acc : List Nat), (∀ j, l[j]? = ops[acc.length + j]?) → backL md acc.length l = true → MaskOk md ops acc → MaskOk md ops (maskL md l acc) ∧ (maskL md l acc).length = acc.length + l.length
  | [], acc, _, _, h => ⟨h, by simp [maskL]⟩
  | o :: l, acc, hl, hb, h => by
    have h0 : ops[acc.length]? = some o := by simpa using (hl 0).symm
    simp only [backL, Bool.and_eq_true] at hb
    have ih := maskL_ok l (acc ++ [emask md acc o.after.toList]) (fun j => by
      have := hl (j + 1)
      simp only [List.getElem?_cons_succ, List.length_append, List.length_singleton] at this ⊢
      rw [this]; congr 1; omega) (by simpa using hb.2) (fun j k hj => by
      rcases Nat.lt_trichotomy j acc.length with hlt | heq | hgt
      · rw [List.getD_eq_getElem?_getD, List.getElem?_append_left hlt, ← List.getD_eq_getElem?_getD] at hj
        exact h j k hj
      · subst heq
        have : (acc ++ [emask md acc o.after.toList]).getD acc.length 0 = emask md acc o.after.toList := by simp [List.getD]
        rw [this] at hj
        obtain ⟨e, he, hbind, h3⟩ := emask_spec hj
        unfold reach
        rw [h0]
        refine Array.any_eq_true'.2 ⟨e, by simpa using he, ?_⟩
        simp only [Bool.and_eq_true, Bool.or_eq_true]
        refine ⟨hbind, h3.imp (fun h => by rw [h]; exact Nat.beq_refl _) (fun h3 => ?_)⟩
        have hlt : e.on < acc.length := by
          have := List.all_eq_true.1 hb.1 e he
          simpa [hbind, Nat.blt_eq] using this
        exact reach_mono _ _ _ _ (by omega) (h e.on k h3)
      · rw [List.getD_eq_getElem?_getD, List.getElem?_eq_none (by simp; omega)] at hj
        simp at hj)
    refine ⟨ih.1, ?_⟩
    have h5 := ih.2
    have e5 : maskL md (o :: l) acc = maskL md l (acc ++ [emask md acc o.after.toList]) := rfl
    rw [e5, h5]
    simp only [List.length_append, List.length_cons, List.length_nil]
    omega
def flAll (fl : Nat → Bool) (k : Nat) : Nat → List Nat → Bool
  | _, [] => true
  | j, m :: ms => (fl j || Nat.testBit m k) && flAll fl k (j + 1) ms
theorem flAll_spec {fl : Nat → Bool} {k : Nat} : ∀ {ms : List Nat} {j i : Nat}, flAll fl k j ms = true → i < ms.length → fl (j + i) = true ∨ (ms.getD i 0).testBit k = true
  | [], _, _, _, h => by simp at h
  | m :: ms, j, 0, h, _ => by simp only [flAll, Bool.and_eq_true, Bool.or_eq_true] at h; simpa using h.1
  | m :: ms, j, i + 1, h, hi => by
    simp only [flAll, Bool.and_eq_true, Bool.or_eq_true] at h
    have := flAll_spec h.2 (i := i) (by simpa using hi)
    rw [show j + (i + 1) = j + 1 + i by omega]
    simpa using this
def lex2 (md : Region.Mode) (ops : Array Oper) (fl : Nat → Bool) : Nat → List Oper → List Nat → Bool
  | _, [], [] => true
  | k, o :: rest, _ :: ms => rest.all (fun oj => oj.after.any (fun e => Region.binds md e && e.on == k) || o.apart ops oj) && ((fl k || flAll fl k (k + 1) ms) && lex2 md ops fl (k + 1) rest ms)
  | _, _, _ => false
theorem lexC_of {md : Region.Mode} {ops : Array Oper} {fl : Nat → Bool} {M : List Nat} (hM : MaskOk md ops M) (hlen : M.length = ops.size) : ∀ (l : List Oper) (k : Nat) (listed : Array Bool), listed.size = ops.size → (∀ j, j < ops.size → ∀ b, listed.getD j b = decide (j < k)) → (∀ j, l[j]? = ops[k + j]?) → k + l.length = ops.size →
    backL md k l = true → lex2 md ops fl k l (M.drop k) = true → Region.lexC md ops fl l.length k listed = true
  | [], k, listed, hs, hlis, hl, hk, hb, h => by
    simp only [List.length_nil, Region.lexC, Nat.add_zero] at *
    rw [List.isEmpty_iff, Region.ready, List.filter_eq_nil_iff]
    intro i hi
    rw [List.mem_range] at hi
    simp [hlis i hi true, hk, hi]
  | o :: rest, k, listed, hs, hlis, hl, hk, hb, h => by
    have h0 : ops[k]? = some o := by simpa using (hl 0).symm
    have hkn : k < ops.size := by simp at hk; omega
    have hdrop : M.drop k = M.getD k 0 :: M.drop (k + 1) := by
      rw [List.drop_eq_getElem_cons (by omega)]
      simp [List.getD, List.getElem?_eq_getElem (by omega : k < M.length)]
    rw [hdrop] at h
    simp only [lex2, Bool.and_eq_true] at h
    obtain ⟨hap, hfl, hrest⟩ := h
    simp only [backL, Bool.and_eq_true] at hb
    simp only [List.length_cons, Region.lexC, Bool.and_eq_true]
    have hrj : ∀ j, k < j → ∀ oj, ops[j]? = some oj → oj ∈ rest := fun j hj oj hoj => by
      have := hl (j - k)
      rw [show k + (j - k) = j by omega, hoj, show j - k = (j - k - 1) + 1 by omega, List.getElem?_cons_succ] at this
      exact List.mem_of_getElem? this
    refine ⟨⟨⟨?_, ?_⟩, ?_⟩, ?_⟩
    · rw [List.contains_iff_mem, mem_ready]
      refine ⟨by rw [hlis k hkn]; simp, o, h0, fun e he hbe => ?_⟩
      have := List.all_eq_true.1 hb.1 e (by simpa using he)
      simp only [hbe, Bool.not_true, Bool.false_or, Nat.blt_eq] at this
      rw [hlis e.on (by omega)]
      simpa using this
    · simp only [Region.free, h0, List.all_eq_true, List.mem_range]
      intro j hj
      rcases Nat.lt_trichotomy j k with hlt | heq | hgt
      · rw [hlis j hj]; simp [hlt]
      · simp [heq]
      · have hoj : ops[j]? = some ops[j] := Array.getElem?_eq_getElem hj
        rw [hoj]
        have := List.all_eq_true.1 hap _ (hrj j hgt _ hoj)
        show (j == k || listed.getD j true || ((ops[j].after.any fun e => Region.binds md e && e.on == k) || Oper.apart ops o ops[j])) = true
        rw [this]; simp
    · rcases Bool.or_eq_true _ _ ▸ hfl with h1 | h1
      · rw [h1]; rfl
      · rw [Bool.or_eq_true]; right
        rw [List.all_eq_true]
        intro j hj
        rw [List.mem_range] at hj
        rcases Nat.lt_trichotomy j k with hlt | heq | hgt
        · rw [hlis j hj]; simp [hlt]
        · simp [heq]
        · have h3 := flAll_spec h1 (i := j - (k + 1)) (by rw [List.length_drop]; omega)
          rw [show k + 1 + (j - (k + 1)) = j by omega] at h3
          rcases h3 with h3 | h3
          · rw [h3]; simp
          · have h4 : (M.getD j 0).testBit k = true := by
              rw [List.getD_eq_getElem?_getD, List.getElem?_drop, show k + 1 + (j - (k + 1)) = j by omega] at h3
              rwa [List.getD_eq_getElem?_getD]
            rw [reach_mono _ _ _ _ (by omega) (hM j k h4)]; simp
    · refine lexC_of hM hlen rest (k + 1) (listed.setIfInBounds k true) (by simp [hs]) (fun j hj b => ?_) (fun j => ?_) (by simp at hk; omega) hb.2 hrest
      · rcases Nat.lt_trichotomy j k with hlt | heq | hgt
        · rw [getD_set_ne b (by omega), hlis j hj]; simp [hlt]; omega
        · subst heq; simp [Array.getD, hs, hj]
        · rw [getD_set_ne b (by omega), hlis j hj]
          rw [decide_eq_decide]; omega
      · have := hl (j + 1)
        simp only [List.getElem?_cons_succ] at this
        rw [this]; congr 1; omega
def chain2 (md : Region.Mode) (l : List Oper) (fl : Nat → Bool) : Bool := Region.noSelect l.toArray && (backL md 0 l && lex2 md l.toArray fl 0 l (maskL md l []))
theorem chain2_ok {md : Region.Mode} {l : List Oper} {fl : Nat → Bool} (h : chain2 md l fl = true) : Region.chainOk md l.toArray fl = true := by
  simp only [chain2, Bool.and_eq_true] at h
  obtain ⟨h1, h2, h3⟩ := h
  obtain ⟨hM, hlen⟩ := maskL_ok (ops := l.toArray) l [] (fun j => by simp) h2 (fun j k hj => by simp at hj)
  unfold Region.chainOk
  rw [h1, Bool.true_and]
  exact lexC_of (l := l) hM (by simpa using hlen) 0 _ (by simp) (fun j hj b => by simp at hj; simp [Array.getD, hj]) (fun j => by simp) (by simp) h2 (by simpa using h3)
section
variable {P : Program} {N : Nat} {Q : Post} {L : Slots} {w : World}
theorem WC.chainF {i : Nat} {l : List Oper} (fl : Nat → Bool) (D : Nat → World → Prop) (hm : P.follows .mixedOrders = true) (hB : chain2 .any l fl = true) (hE : ∀ k w', Eqv w w' → D k w') (h : WJ P N l.toArray fl D Q l 0 L w) : WC P N Q (.region i l.toArray true) L w := WC.chainJ fl D hm (chain2_ok hB) hE h
end
end Go.Proofs.YtfibkajdahaggaaDoor
